/-
 NumberSame: a number read from several spellings of the same value is the same; no condition (a part of the proof).
-/
import Derived.Test.YtdgfhijnconaoaaGreatDoorS1x03
import Derived.Deep.Strs
import Derived.ChangeStays
import Derived.ReadAgain
import Init
import Derived.Shelf.Bits.Mul64
set_option maxRecDepth 1000000
namespace Go.Proofs.YtdgfhijnconaoaaGreatDoor
open Go.ChangeShapes Go.WideShapes Go.ChangeAt Go.RowKit Go.Joins
section
variable {H:Type} {enc:TypeId×Value→H} {P:Program} {T:TypeId→Prop}
theorem i0j {W W':World} {sp:Nat→Bool} (K:Kids P T) (hz:∀ t e,T t→P.underlying t=some (.slice e)→0 < P.cellsOf e) {t:TypeId} (hT:T t) {v:Value} {d:DataW H} {ps:List MemPlace}
  (h:DataW.Trod enc P W 0 (fun _=>true) true t v d ps) (hs:∀ p∈ps,W.sameAt W' p) (hp:∀ p∈ps,sp p.block=true):DataW.Trod enc P W' 0 sp true t v d ps:=by
 obtain⟨n,hn⟩:=h
 exact⟨n,DataW.trod_stays K (fun {t e} =>hz t e) (fun e=>by cases e) hT hn hs hp⟩
theorem eJ {W W':World} {sp:Nat→Bool} (K:Kids P T) (hz:∀ t e,T t→P.underlying t=some (.slice e)→0 < P.cellsOf e):∀ {ts:List TypeId} {vs:List Value} {ds:List (DataW H)} {ps:List MemPlace},
  (∀ t∈ts,T t)→DataW.TrodAll enc P W 0 (fun _=>true) true ts vs ds ps→(∀ p∈ps,W.sameAt W' p)→(∀ p∈ps,sp p.block=true)→DataW.TrodAll enc P W' 0 sp true ts vs ds ps
 | [],[],[],_,_,h,_,_=>h
 | _ ::_,_ ::_,_ ::_,_,hT,⟨p,q,h1,h2,e⟩,hs,hp=>⟨p,q,i0j K hz (hT _ (List.mem_cons.2 (Or.inl rfl))) h1 (fun x hx=>hs x (by rw [e]; exact List.mem_append_left _ hx)) (fun x hx=>hp x (by rw [e]; exact List.mem_append_left _ hx)),
   eJ K hz (fun t ht=>hT t (List.mem_cons.2 (Or.inr ht))) h2 (fun x hx=>hs x (by rw [e]; exact List.mem_append_right _ hx)) (fun x hx=>hp x (by rw [e]; exact List.mem_append_right _ hx)),e⟩
theorem a0i {W W':World} (h:Below W.heap.size W W') {b off:Nat} (hb:b < W.heap.size):W'.frozen? ⟨b,off,none⟩=W.frozen? ⟨b,off,none⟩:=by
 unfold World.frozen?
 rw [h.block b hb]
theorem xG {f:Func} {s:ChangeSpec} {apart fresh handsOn again:Bool} {W W':World} {args:Array Value} {v:Value} {ds:List (DataW H)} {before:List MemPlace}
  (K:Kids P T) (hz:∀ t e,T t→P.underlying t=some (.slice e)→0 < P.cellsOf e) (hT:∀ t∈f.params.toList,T t) (hv:s.vars=[])
  (hW:DataW.Whole enc P f.params.toList s.vars apart W args.toList ds [] before)
  (hres:∀ (b:Nat) (sp:Nat→Bool) (hd:Bool),DataW.TrodAll enc P W' b sp hd f.resultTypes.toList (v.resultList f.resultTypes.size) (s.fn H (ds++[])).results [])
  (ha:(s.fn H (ds++[])).args=ds) (hvs:(s.fn H (ds++[])).vars=[])
  (hk:Below W.heap.size W W')
  (hok:∀ (j:Nat) (t:TypeId) (r:Value),f.resultTypes[j]? =some t→(v.resultList f.resultTypes.size)[j]? =some r→Value.okWide P W' .any 0 t r):
  s.post enc P f apart fresh handsOn again W args v W':=by
 have hlt:=hW.lt
 have hW':=hW
 obtain⟨p,q,hA,hV,rfl,hfz,hn⟩:=hW'
 rw [hv] at hV
 obtain⟨_,rfl⟩:=trodVars_none hV
 have hargs:∀ sp:Nat→Bool,(∀ x∈p,sp x.block=true)→DataW.TrodAll enc P W' 0 sp true f.params.toList args.toList (s.fn H (ds++[])).args p:=fun sp hsp=>by
  rw [ha]
  exact eJ K hz hT hA (fun x hx=>hk.same (hlt x (List.mem_append_left _ hx))) hsp
 have hvars:∀ sp:Nat→Bool,DataW.TrodVars enc P W' sp s.vars (s.fn H (ds++[])).vars [] :=fun sp=>by rw [hv,hvs]; rfl
 refine⟨ds,[],p++[],[],p,[],hW,hres _ _ _,hargs _ (fun x hx=>by simpa using hlt x (List.mem_append_left _ hx)),hvars _,World.keptBut_mono (fun x hx=>⟨by simpa using hx, .inr (.inl hx)⟩) (hk.frame (· ∈p)),fun _=> ?_⟩
 refine⟨hok,_,_,([] ++p)++[],⟨[] ++p,[],trodAll_append (hargs _ (fun _ _=>rfl)) (hres _ _ _),hvars _,rfl,?_,?_⟩,?_⟩
 ·intro b off hp
  have hp':MemPlace.cell b off∈p++[] :=by simpa using hp
  rw [a0i hk (b:=b) (off:=off) (hlt _ hp')]
  exact hfz b off hp'
 ·intro ha'
  simpa using hn ha'
 ·intro x hx _
  simpa using hx
theorem i0f {w:World} {r:Reach} {b0:Nat} {t e:TypeId} {a:Addr} {len cap:Nat} (ht:P.underlying t=some (.slice e)) (h:Value.okWide P w r b0 t (.slice (some a) len cap)):a.spot=none∧∃ cs ty fr,w.heap[a.block]? =some (.cells cs ty fr):=by
 unfold Value.okWide at h
 rw [ht] at h
 simp only [Cell.okWide,Cell.ok,ht] at h
 obtain⟨_,_,_,h2,row,cells,h3,_⟩:=h
 refine⟨h2,?_⟩
 unfold World.shape? at h3
 split at h3
 ·rename_i c el fr hc; exact⟨c,el,fr,hc⟩
 ·cases h3
theorem j0g {α:Type} [Inhabited α] (mk:α→Value) (rd:α→DataW H) (Q:α→Prop) {W:World} {r:Reach} {b0:Nat} {t e:TypeId} {sz:Nat} (ht:P.underlying t=some (.slice e)) (hsz:P.cellsOf e=sz) {v:Value} {d:DataW H} {p:List MemPlace}
  (hv:Value.okWide P W r b0 t v) (h:DataW.Trod enc P W 0 (fun _=>true) true t v d p)
  (he:∀ (cs:List Value) (n:Nat) (y:DataW H×List MemPlace),cs.length=sz→DataW.trod enc P W 0 (fun _=>true) true n e cs=some y→∃ x,(mk x).cells.toList=cs∧Ev.pureV (mk x)=true∧y.1=rd x∧Q x):
  ∃ (F:Nat→α) (n off:Nat),Ev.CelIs W (.f (fun i=>mk (F i)) n sz off) v∧n≤maxLen∧(∀ i,i < n→Q (F i))∧(d= .nil∧n=0∨∃ rest,d= .slice ((List.range n).map fun i=>rd (F i)) rest):=by
 obtain⟨a,len,cap,rfl⟩:=okWide_slice ht hv
 obtain⟨fuel,hf⟩:=h
 rcases Deep.open_slice ht hf with ⟨h1,h2⟩ | ⟨a,len,cap,m,n,D,Pl,h1,_,hl,hm,hmm,hx,hel⟩
 ·simp only [Value.cells,List.cons.injEq,and_true] at h1
  rw [h1]
  cases h2
  exact⟨fun _=>default,0,0, .inl ⟨rfl,rfl⟩,Nat.zero_le _,fun i hi=>by omega, .inl ⟨rfl,rfl⟩⟩
 ·simp only [Value.cells,List.cons.injEq,and_true] at h1
  rw [h1] at hv ⊢
  obtain⟨hsp,cs,ty,fr,hb⟩:=i0f ht hv
  obtain⟨b,off,sp⟩:=a
  simp only at hsp hb
  subst hsp
  have hmc:m=cap:=by rw [hmm]; rfl
  subst hmc
  have each:∀ i,i < m→∃ x,(mk x).cells.toList.length=sz∧Ev.pureV (mk x)=true∧D i=rd x∧Q x∧∀ (j:Nat) (u:Value),(mk x).cells.toList[j]? =some u→cs[off+i*sz+j]? =some u:=by
   intro i hi
   obtain⟨cs',hc,hy⟩:=hel i hi
   rw [hsz] at hc
   obtain⟨_,hlen,hcell⟩:=World.cells?_some hc
   obtain⟨x,q1,q2,q3,q4⟩:=he cs' n _ hlen hy
   refine⟨x,by rw [q1]; exact hlen,q2,q3,q4,fun j u hj=> ?_⟩
   rw [q1] at hj
   have hjl:j < sz:=by rw [← hlen]; exact (List.getElem?_eq_some_iff.1 hj).1
   have:=hcell j hjl
   rw [hj,Ev.addr_add,Ev.addr_add,cell_of_row W b (off+i*sz+j) _ _ _ hb] at this
   exact this
  obtain⟨F,hF⟩:=Deep.choose_lt each
  simp only [Prod.mk.injEq] at hx
  refine⟨F,len,off, .inr ⟨b,m,cs,ty,fr,rfl,hb,fun i hi=> ?_⟩,by omega,fun i hi=>(hF i (by omega)).2.2.2.1, .inr ⟨(List.range (m-len)).map fun j=>D (len+j),?_⟩⟩
  ·obtain⟨g1,g2,_,_,g5⟩:=hF i (by omega)
   exact⟨g1,g2,g5⟩
  ·rw [hx.1]
   congr 1
   exact List.map_congr_left fun i hi=>(hF i (by have:=List.mem_range.1 hi; omega)).2.2.1
end
abbrev c1w (x:Int):Value:= .int .u8 x
abbrev n1y {H:Type} (x:Int):DataW H:= .lit (.int .u8 x)
section
variable {H:Type} {enc:TypeId×Value→H} {W:World}
theorem zT (cs:List Value) (n:Nat) (y:DataW H×List MemPlace) (_:cs.length=1) (h:DataW.trod enc Tryz.prog W 0 (fun _=>true) true n 5 cs=some y):∃ x,(c1w x).cells.toList=cs∧Ev.pureV (c1w x)=true∧y.1=n1y x∧(0≤x∧x < 256):=by
 obtain⟨x,rfl,rfl,w⟩:=DataW.trod_int Tryz.underlying5 h
 refine⟨x,rfl,rfl,rfl,?_⟩
 simp only [Lit.wf,Bool.and_eq_true,decide_eq_true_eq] at w
 have h1:(0:Int)≤x:=w.1
 have h2:x≤255:=w.2
 exact⟨h1,by omega⟩
end
theorem q0d {a:Int} (w:(Lit.int .i64 a).wf=true): -9223372036854775808≤a∧a≤9223372036854775807:=by
 simp only [Lit.wf,Bool.and_eq_true,decide_eq_true_eq] at w
 exact w
theorem d1l:laidOutB Tryz.prog=true:=by kernel_rfl
theorem n0r:mapsRowed Tryz.prog=true:=by kernel_rfl
theorem i0l:∀ t e,t < Tryz.prog.types.size→Tryz.prog.underlying t=some (.slice e)→0 < Tryz.prog.cellsOf e:=slices_full_of Tryz.prog (by kernel_rfl)
theorem e2j:Kids Tryz.prog (· < Tryz.prog.types.size):=kids_rows d1l n0r
end Go.Proofs.YtdgfhijnconaoaaGreatDoor
namespace Go.Proofs.YtdgfhijnconaoaaGreatDoor.Wd
def val (b:Nat):List Int→Nat
 | [] =>0
 | x ::r=>x.toNat+b*val b r
def Dg (b:Nat) (l:List Int):Prop:=∀ x∈l,0≤x∧x < (b:Int)
theorem Dg.nil (b:Nat):Dg b [] :=fun _ h=>by cases h
theorem Dg.cons {b:Nat} {x:Int} {l:List Int} (h:0≤x∧x < (b:Int)) (k:Dg b l):Dg b (x ::l):=by
 intro y hy
 rcases List.mem_cons.1 hy with rfl | hy
 ·exact h
 ·exact k y hy
theorem Dg.head {b:Nat} {x:Int} {l:List Int} (h:Dg b (x ::l)):0≤x∧x < (b:Int):=h x (List.mem_cons_self ..)
theorem Dg.tail {b:Nat} {x:Int} {l:List Int} (h:Dg b (x ::l)):Dg b l:=fun y hy=>h y (List.mem_cons_of_mem _ hy)
theorem Dg.get {b:Nat} (hb:0 < b) {l:List Int} (h:Dg b l) (i:Nat):0≤l.getD i 0∧l.getD i 0 < (b:Int):=by
 rw [List.getD_eq_getElem?_getD]
 cases e:l[i]? with
 | none=>simp; omega
 | some x=>simpa using h x (List.mem_of_getElem? e)
theorem Dg.set {b:Nat} {l:List Int} (h:Dg b l) {x:Int} (hx:0≤x∧x < (b:Int)) (i:Nat):Dg b (l.set i x):=by
 intro y hy
 rcases List.mem_or_eq_of_mem_set hy with hy | rfl
 ·exact h y hy
 ·exact hx
theorem Dg.append {b:Nat} {l m:List Int} (h:Dg b l) (k:Dg b m):Dg b (l++m):=by
 intro y hy
 rcases List.mem_append.1 hy with hy | hy
 ·exact h y hy
 ·exact k y hy
theorem Dg.take {b:Nat} {l:List Int} (h:Dg b l) (i:Nat):Dg b (l.take i):=fun y hy=>h y (List.mem_of_mem_take hy)
theorem Dg.drop {b:Nat} {l:List Int} (h:Dg b l) (i:Nat):Dg b (l.drop i):=fun y hy=>h y (List.mem_of_mem_drop hy)
theorem Dg.zeros (b:Nat) (hb:0 < b) (n:Nat):Dg b (List.replicate n 0):=by
 intro y hy
 have:=List.eq_of_mem_replicate hy
 subst this
 omega
theorem O7 (b:Nat):∀ l m:List Int,val b (l++m)=val b l+b ^l.length*val b m
 | [],m=>by simp [val]
 | x ::l,m=>by
  simp only [List.cons_append,val,O7 b l m,List.length_cons,Nat.pow_succ]
  rw [Nat.mul_add,← Nat.mul_assoc,Nat.mul_comm b (b ^l.length)]
  omega
theorem Q2 (b:Nat):∀ n,val b (List.replicate n 0)=0
 | 0=>rfl
 | n+1=>by simp [List.replicate_succ,val,Q2 b n]
theorem I3 {b:Nat} (hb:0 < b):∀ {l:List Int},Dg b l→val b l < b ^l.length
 | [],_=>by simp [val]
 | x ::l,h=>by
  have h1:=h.head
  have h2:=I3 hb h.tail
  simp only [val,List.length_cons,Nat.pow_succ]
  have h3:b*val b l+b≤b*b ^l.length:=by
   rw [← Nat.mul_succ]
   exact Nat.mul_le_mul_left b h2
  rw [Nat.mul_comm (b ^l.length) b]
  omega
theorem uJ {b:Nat} (hb:0 < b):∀ {l m:List Int},Dg b l→Dg b m→l.length=m.length→val b l=val b m→l=m
 | [],[],_,_,_,_=>rfl
 | [],_ ::_,_,_,h,_=>by simp at h
 | _ ::_,[],_,_,h,_=>by simp at h
 | x ::l,y ::m,hl,hm,hn,hv=>by
  have h1:=hl.head
  have h2:=hm.head
  simp only [val] at hv
  have e1:(x.toNat+b*val b l)%b=x.toNat:=by rw [Nat.add_mul_mod_self_left]; exact Nat.mod_eq_of_lt (by omega)
  have e2:(y.toNat+b*val b m)%b=y.toNat:=by rw [Nat.add_mul_mod_self_left]; exact Nat.mod_eq_of_lt (by omega)
  have e:x.toNat=y.toNat:=by rw [← e1,← e2,hv]
  have hv2:b*val b l=b*val b m:=by omega
  have:=uJ hb hl.tail hm.tail (by simpa using hn) (Nat.eq_of_mul_eq_mul_left hb hv2)
  subst this
  congr 1
  omega
def dig (b m i:Nat):Nat:=m/b ^i%b
theorem U6 {b:Nat} (hb:0 < b) (m i:Nat):dig b m i < b:=Nat.mod_lt _ hb
theorem C3 {b:Nat} (hb:0 < b):∀ {l:List Int},Dg b l→∀ i,l.getD i 0=(dig b (val b l) i:Int)
 | [],_,i=>by simp [dig,val]
 | x ::l,h,0=>by
  have h1:=h.head
  simp only [List.getD_cons_zero,dig,val,Nat.pow_zero,Nat.div_one,Nat.add_mul_mod_self_left]
  rw [Nat.mod_eq_of_lt (by omega)]
  omega
 | x ::l,h,i+1=>by
  have h1:=h.head
  rw [List.getD_cons_succ,C3 hb h.tail i]
  simp only [dig,val]
  rw [Nat.pow_succ,Nat.mul_comm (b ^i) b,← Nat.div_div_eq_div_mul,Nat.add_mul_div_left _ _ hb,Nat.div_eq_of_lt (show x.toNat < b by omega),Nat.zero_add]
def dl (b:Nat):Nat→Nat→List Int
 | 0,_=>[]
 | n+1,m=>((m%b:Nat):Int) ::dl b n (m/b)
theorem m9 (b:Nat):∀ n m,(dl b n m).length=n
 | 0,_=>rfl
 | n+1,m=>by simp [dl,m9 b n]
theorem y0o {b:Nat} (hb:0 < b):∀ n m,Dg b (dl b n m)
 | 0,_=>Dg.nil b
 | n+1,m=>Dg.cons (by have:=Nat.mod_lt m hb; omega) (y0o hb n _)
theorem b0o (b:Nat):∀ n m,val b (dl b n m)=m%b ^n
 | 0,m=>by simp [dl,val,Nat.mod_one]
 | n+1,m=>by
  simp only [dl,val,b0o b n]
  rw [Nat.pow_succ,Nat.mul_comm (b ^n) b,Nat.mod_mul,Int.toNat_natCast]
theorem v1k {b:Nat} (hb:0 < b) {l:List Int} (h:Dg b l) {n m:Nat} (hn:l.length=n) (hm:val b l=m):l=dl b n m:=by
 subst hn hm
 exact uJ hb h (y0o hb _ _) (m9 b _ _).symm (by rw [b0o,Nat.mod_eq_of_lt (I3 hb h)])
theorem V0 {b:Nat} :∀ {l:List Int} {i:Nat} (x:Int),i < l.length→val b (l.set i x)+(l.getD i 0).toNat*b ^i=val b l+x.toNat*b ^i
 | [],_,_,h=>by simp at h
 | y ::l,0,x,_=>by simp [val]; omega
 | y ::l,i+1,x,h=>by
  have ih:=V0 (b:=b) (l:=l) (i:=i) x (by simpa using h)
  simp only [List.set_cons_succ,val,List.getD_cons_succ,Nat.pow_succ]
  have h1:b*val b (l.set i x)+b*((l.getD i 0).toNat*b ^i)=b*val b l+b*(x.toNat*b ^i):=by rw [← Nat.mul_add,← Nat.mul_add,ih]
  have h2:(l.getD i 0).toNat*(b ^i*b)=b*((l.getD i 0).toNat*b ^i):=by rw [Nat.mul_comm b,Nat.mul_assoc]
  have h3:x.toNat*(b ^i*b)=b*(x.toNat*b ^i):=by rw [Nat.mul_comm b,Nat.mul_assoc]
  omega
theorem u6 (b:Nat) (l:List Int) (i:Nat) (h:i≤l.length):val b l=val b (l.take i)+b ^i*val b (l.drop i):=by
 have:=O7 b (l.take i) (l.drop i)
 rw [List.take_append_drop,List.length_take,Nat.min_eq_left h] at this
 exact this
theorem bC (b m i:Nat):m%b ^(i+1)=m%b ^i+dig b m i*b ^i:=by
 rw [Nat.pow_succ,Nat.mod_mul]
 unfold dig
 rw [Nat.mul_comm (b ^i)]
theorem m1f {b:Nat} (m i:Nat):m/b ^i=dig b m i+b*(m/b ^(i+1)):=by
 unfold dig
 rw [Nat.pow_succ,← Nat.div_div_eq_div_mul]
 exact (Nat.mod_add_div _ _).symm
def wsF (b:Nat):Nat→Nat→List Int
 | 0,_=>[]
 | f+1,m=>match m with
  | 0=>[]
  | m+1=>(((m+1)%b:Nat):Int) ::wsF b f ((m+1)/b)
def ws (b m:Nat):List Int:=wsF b m m
theorem d1j {b:Nat} (hb:2≤b):∀ f m,m≤f→∀ g,m≤g→wsF b f m=wsF b g m:=by
 intro f
 induction f with
 | zero=>
  intro m hm g _
  obtain rfl:m=0:=by omega
  cases g <;> rfl
 | succ f ih=>
  intro m hm g hg
  cases m with
  | zero=>cases g <;> rfl
  | succ m=>
   cases g with
   | zero=>omega
   | succ g=>
    have hlt:(m+1)/b < m+1:=Nat.div_lt_self (by omega) hb
    simp only [wsF]
    rw [ih _ (by omega) g (by omega)]
theorem wE (b:Nat):ws b 0=[] :=rfl
theorem a0h {b:Nat} (hb:2≤b) {m:Nat} (hm:0 < m):ws b m=((m%b:Nat):Int) ::ws b (m/b):=by
 cases m with
 | zero=>omega
 | succ m=>
  have hlt:(m+1)/b < m+1:=Nat.div_lt_self (by omega) hb
  unfold ws
  conv=>lhs; unfold wsF
  simp only
  rw [d1j hb m _ (by omega) ((m+1)/b) (Nat.le_refl _)]
theorem q1u {b:Nat} (hb:2≤b) (m:Nat):Dg b (ws b m):=by
 induction m using Nat.strongRecOn with
 | ind m ih=>
  by_cases hm:m=0
  ·subst hm; exact Dg.nil b
  ·rw [a0h hb (by omega)]
   exact Dg.cons (by have:=Nat.mod_lt m (show 0 < b by omega); omega) (ih _ (Nat.div_lt_self (by omega) hb))
theorem z0k {b:Nat} (hb:2≤b) (m:Nat):val b (ws b m)=m:=by
 induction m using Nat.strongRecOn with
 | ind m ih=>
  by_cases hm:m=0
  ·subst hm; rfl
  ·rw [a0h hb (by omega)]
   simp only [val]
   rw [ih _ (Nat.div_lt_self (by omega) hb)]
   have:=Nat.mod_add_div m b
   omega
def v1s (l:List Int):Prop:=∀ x,l.getLast? =some x→x≠0
theorem s1y {b:Nat} (hb:2≤b):∀ {l:List Int},Dg b l→v1s l→l=ws b (val b l)
 | [],_,_=>rfl
 | x ::l,h,hc=>by
  have h1:=h.head
  have hct:v1s l:=by
   intro y hy
   cases l with
   | nil=>cases hy
   | cons z l=>exact hc y (by rw [List.getLast?_cons_cons]; exact hy)
  have ih:=s1y hb h.tail hct
  have hpos:0 < val b (x ::l):=by
   simp only [val]
   cases l with
   | nil=>
    have:=hc x rfl
    simp [val]
    omega
   | cons z l=>
    have:0 < val b (z ::l):=by
     rcases Nat.eq_zero_or_pos (val b (z ::l)) with h0 | h0
     ·rw [h0] at ih; cases ih
     ·exact h0
    have:=Nat.mul_pos (show 0 < b by omega) this
    omega
  rw [a0h hb hpos]
  simp only [val]
  rw [Nat.add_mul_mod_self_left,Nat.mod_eq_of_lt (by omega),Nat.add_mul_div_left _ _ (by omega),Nat.div_eq_of_lt (by omega),Nat.zero_add,← ih]
  congr 1
  omega
theorem jC {b:Nat} (hb:2≤b) (m n:Nat):(ws b m).length≤n↔m < b ^n:=by
 constructor
 ·intro h
  have h1:=I3 (by omega) (q1u hb m)
  rw [z0k hb] at h1
  exact Nat.lt_of_lt_of_le h1 (Nat.pow_le_pow_right (by omega) h)
 ·induction n generalizing m with
  | zero=>
   intro h
   obtain rfl:m=0:=by simpa using h
   simp [wE]
  | succ n ih=>
   intro h
   by_cases hm:m=0
   ·subst hm; simp [wE]
   ·rw [a0h hb (by omega),List.length_cons]
    have:m/b < b ^n:=by
     rw [Nat.div_lt_iff_lt_mul (by omega),← Nat.pow_succ]
     exact h
    have:=ih _ this
    omega
theorem t0k {b:Nat} (hb:2≤b) {m:Nat} :(ws b m).length=0↔m=0:=by
 have:=jC hb m 0
 simp only [Nat.pow_zero] at this
 omega
theorem b1j {b:Nat} (hb:2≤b) (m i:Nat):(ws b m).getD i 0=(dig b m i:Int):=by
 rw [C3 (by omega) (q1u hb m),z0k hb]
def m3 (l:List Int):List Int:=(l.reverse.dropWhile (· ==0)).reverse
theorem P5 (l:List Int) (x:Int):m3 (l++[x])=if x=0 then m3 l else l++[x] :=by
 unfold m3
 rw [List.reverse_append]
 simp only [List.reverse_cons,List.reverse_nil,List.nil_append,List.singleton_append]
 rw [List.dropWhile_cons]
 by_cases h:x=0
 ·subst h; simp
 ·have:(x==0)=false:=by simpa using h
  simp [this,h]
theorem xL (b:Nat) (l:List Int):val b (l++[0])=val b l:=by rw [O7]; simp [val]
theorem G5 {b:Nat} (hb:2≤b) {l:List Int} (h:Dg b l):m3 l=ws b (val b l):=by
 induction hn:l.length generalizing l with
 | zero=>
  have:=List.eq_nil_of_length_eq_zero hn
  subst this
  rfl
 | succ n ih=>
  have hne:l≠[] :=by intro e; subst e; cases hn
  obtain⟨m,x,rfl⟩:∃ m x,l=m++[x] :=⟨l.dropLast,l.getLast hne,(List.dropLast_concat_getLast hne).symm⟩
  rw [P5]
  split
  ·rename_i hx
   subst hx
   rw [xL]
   exact ih (fun y hy=>h y (List.mem_append_left _ hy)) (by simp at hn; omega)
  ·rename_i hx
   refine s1y hb h fun y hy=> ?_
   simp at hy
   omega
end Go.Proofs.YtdgfhijnconaoaaGreatDoor.Wd
namespace Go.Proofs.YtdgfhijnconaoaaGreatDoor
open Go Go.RowKit Ev Wd
def uH:List Value→Option (Value×List Prop)
 | [.int .u64 x, .int .u64 y, .int .u64 c] =>some (.tuple ⟨[.int .u64 (Int.ofNat ((x.toNat+y.toNat+c.toNat)%18446744073709551616)), .int .u64 (Int.ofNat ((x.toNat+y.toNat+c.toNat)/18446744073709551616))]⟩,[c.toNat≤1])
 | _=>none
theorem g0p (args:List Value) (v:Value) (l:List Prop) (h:uH args=some (v,l)) (hl:d5 l):Pure Tryz.prog J0 146 args v:=by
 unfold uH at h
 split at h
 case h_2=>cases h
 rename_i x y c
 cases h
 have hc:c.toNat≤1:=hl.1
 refine jH [.int .u64 x, .int .u64 y, .int .u64 c] _ [] ?_ trivial
 simp only [cJ,Nat.ble_eq_true_of_le hc]
def vI (x y c:Int):Int:=Int.ofNat ((x.toNat+18446744073709551616-y.toNat-c.toNat)%18446744073709551616)
def uA (x y c:Int):Int:=Int.ofNat (match Nat.blt x.toNat (y.toNat+c.toNat) with | true=>1 | false=>0)
def vE:List Value→Option (Value×List Prop)
 | [.int .u64 x, .int .u64 y, .int .u64 c] =>some (.tuple ⟨[.int .u64 (vI x y c), .int .u64 (uA x y c)]⟩,[c.toNat≤1])
 | _=>none
theorem h0q (args:List Value) (v:Value) (l:List Prop) (h:vE args=some (v,l)) (hl:d5 l):Pure Tryz.prog J0 228 args v:=by
 unfold vE at h
 split at h
 case h_2=>cases h
 rename_i x y c
 cases h
 have hc:c.toNat≤1:=hl.1
 refine iP [.int .u64 x, .int .u64 y, .int .u64 c] _ [] ?_ trivial
 simp only [cY,Nat.ble_eq_true_of_le hc]
 rfl
noncomputable def h1l:Tab:=i6 146 uH (i6 228 vE (i6 20 L0 (i6 91 Q8 n1s)))
theorem vZ:N1 Tryz.prog J0 h1l:=b6 g0p (b6 h0q (b6 N0 (b6 aP (aW _ _))))
noncomputable def bW0:Base:=⟨Tryz.prog,J0,false,h1l,C4,200,H8⟩
theorem s5:BaseOk bW0:=⟨progOk,vZ,m6 _ _,i7⟩
noncomputable abbrev XW0:Cx:=bW0.cx 10
abbrev W64:Nat:=18446744073709551616
theorem b9:0 < W64:=by decide
theorem A3:2≤W64:=by decide
abbrev slV (j n:Nat):Value:= .slice (some ⟨j,0,some (j+1)⟩) n 0
abbrev T8:TypeId:=32
theorem m4 {n:Nat} (h:n < 9223372036854775808):IntKind.i64.wrap (n:Int)=(n:Int):=by
 have:=IntKind.wrap_i64 (n:Int)
 omega
noncomputable def qW:Code:=A2 Tryz.prog 201 0
def bQ (p q:Nat) (xs ys L:List Int) (na nb N:Nat) (la c i:Int):St:=
 ⟨only 53 [(0,slV p na),(1,slV q nb),(5,slV 15 N),(6, .int .u64 c),(20,slV p na),(21, .int .i64 la),(22, .int .i64 i)],[(15, .row T8 1 (.ints .u64 L) 16),(p, .ints .u64 xs),(q, .ints .u64 ys)],17,[],[],0,none,[],15⟩
section
variable (xs ys L:List Int) (na nb N:Nat) (la c i:Int)
theorem q0p (p q:Nat) (hpq:(p=11∧q=13)∨(p=13∧q=11)) (h0:decide (i < la)=true) (h1:decide (i < Int.ofNat nb)=true) (h2:((Int.ofNat 0≤i∧i < Int.ofNat nb)∧0 < ys.length)∧i.toNat < ys.length)
  (h3:((Int.ofNat 0≤i∧i < Int.ofNat na)∧0 < xs.length)∧i.toNat < xs.length) (h4:c.toNat≤1) (h5:((Int.ofNat 0≤i∧i < Int.ofNat N)∧0 < L.length)∧i.toNat < L.length):
  o9 XW0 qW (bQ p q xs ys L na nb N la c i) .normal (bQ p q xs ys (bM L i.toNat (Int.ofNat (((xs.getD i.toNat 0).toNat+(ys.getD i.toNat 0).toNat+c.toNat)%18446744073709551616))) na nb N la
   (Int.ofNat (((xs.getD i.toNat 0).toNat+(ys.getD i.toNat 0).toNat+c.toNat)/18446744073709551616)) (IntKind.i64.wrap (i+1))):=by
 have hl:d5 [i.toNat < L.length,(Int.ofNat 0≤i∧i < Int.ofNat N)∧0 < L.length,c.toNat≤1,i.toNat < xs.length,(Int.ofNat 0≤i∧i < Int.ofNat na)∧0 < xs.length,i.toNat < ys.length,
   (Int.ofNat 0≤i∧i < Int.ofNat nb)∧0 < ys.length,decide (i < Int.ofNat nb)=true,decide (i < la)=true] :=⟨h5.2,h5.1,h4,h3.2,h3.1,h2.2,h2.1,h1,h0,trivial⟩
 rcases hpq with ⟨rfl,rfl⟩ | ⟨rfl,rfl⟩
 ·exact b7 (Base.cx_ok s5 10).1 progOk.mixed [] 200 [true,true] [] (by kernel_rfl) hl (by kernel_rfl) (by kernel_rfl)
 ·exact b7 (Base.cx_ok s5 10).1 progOk.mixed [] 200 [true,true] [] (by kernel_rfl) hl (by kernel_rfl) (by kernel_rfl)
theorem g1x (p q:Nat) (hpq:(p=11∧q=13)∨(p=13∧q=11)) (h0:decide (i < la)=true) (h1:decide (i < Int.ofNat nb)=false)
  (h3:((Int.ofNat 0≤i∧i < Int.ofNat na)∧0 < xs.length)∧i.toNat < xs.length) (h4:c.toNat≤1) (h5:((Int.ofNat 0≤i∧i < Int.ofNat N)∧0 < L.length)∧i.toNat < L.length):
  o9 XW0 qW (bQ p q xs ys L na nb N la c i) .normal (bQ p q xs ys (bM L i.toNat (Int.ofNat (((xs.getD i.toNat 0).toNat+Int.toNat 0+c.toNat)%18446744073709551616))) na nb N la
   (Int.ofNat (((xs.getD i.toNat 0).toNat+Int.toNat 0+c.toNat)/18446744073709551616)) (IntKind.i64.wrap (i+1))):=by
 have hl:d5 [i.toNat < L.length,(Int.ofNat 0≤i∧i < Int.ofNat N)∧0 < L.length,c.toNat≤1,i.toNat < xs.length,(Int.ofNat 0≤i∧i < Int.ofNat na)∧0 < xs.length,decide (i < Int.ofNat nb)=false,decide (i < la)=true] :=⟨h5.2,h5.1,h4,h3.2,h3.1,h1,h0,trivial⟩
 rcases hpq with ⟨rfl,rfl⟩ | ⟨rfl,rfl⟩
 ·exact b7 (Base.cx_ok s5 10).1 progOk.mixed [] 200 [true,false] [] (by kernel_rfl) hl (by kernel_rfl) (by kernel_rfl)
 ·exact b7 (Base.cx_ok s5 10).1 progOk.mixed [] 200 [true,false] [] (by kernel_rfl) hl (by kernel_rfl) (by kernel_rfl)
theorem g1t (p q:Nat) (hpq:(p=11∧q=13)∨(p=13∧q=11)) (h0:decide (i < la)=false):o9 XW0 qW (bQ p q xs ys L na nb N la c i) (.exit 0) (bQ p q xs ys L na nb N la c i):=by
 rcases hpq with ⟨rfl,rfl⟩ | ⟨rfl,rfl⟩
 ·exact b7 (Base.cx_ok s5 10).1 progOk.mixed [] 200 [false] [] (l:=[decide (i < la)=false]) (by kernel_rfl) ⟨h0,trivial⟩ (by kernel_rfl) (by kernel_rfl)
 ·exact b7 (Base.cx_ok s5 10).1 progOk.mixed [] 200 [false] [] (l:=[decide (i < la)=false]) (by kernel_rfl) ⟨h0,trivial⟩ (by kernel_rfl) (by kernel_rfl)
end
theorem o1f {A B V c i a b:Nat} {w:Nat} (h:V+c*w ^i=A%w ^i+B%w ^i) (ha:dig w A i=a) (hb:dig w B i=b):
  V+(a+b+c)%w*w ^i+(a+b+c)/w*w ^(i+1)=A%w ^(i+1)+B%w ^(i+1):=by
 rw [bC,bC,ha,hb]
 have e:(a+b+c)%w*w ^i+(a+b+c)/w*w ^(i+1)=(a+b+c)*w ^i:=by
  rw [Nat.pow_succ,← Nat.mul_assoc,Nat.mul_right_comm,← Nat.add_mul]
  congr 1
  have:=Nat.mod_add_div (a+b+c) w
  rw [Nat.mul_comm] at this
  omega
 have e2:(a+b+c)*w ^i=a*w ^i+b*w ^i+c*w ^i:=by rw [Nat.add_mul,Nat.add_mul]
 omega
structure IPl where
 i:Nat
 c:Int
 L:List Int
def d1x (n A B:Nat) (p:IPl):Prop:=
 p.i≤n∧p.L.length=n+1∧Dg W64 p.L∧0≤p.c∧p.c≤1∧(∀ j,p.i≤j→p.L.getD j 0=0)∧val W64 p.L+p.c.toNat*W64 ^p.i=A%W64 ^p.i+B%W64 ^p.i
noncomputable def lC (xs ys:List Int) (p:IPl):IPl:=
 ⟨p.i+1,Int.ofNat (((xs.getD p.i 0).toNat+(ys.getD p.i 0).toNat+p.c.toNat)/18446744073709551616),bM p.L p.i (Int.ofNat (((xs.getD p.i 0).toNat+(ys.getD p.i 0).toNat+p.c.toNat)%18446744073709551616))⟩
def I0 (n:Nat):IPl:=⟨0,0,List.replicate n 0⟩
theorem getD_set_ne {l:List Int} {i j:Nat} (h:i≠j) (x:Int):(l.set i x).getD j 0=l.getD j 0:=by
 rw [List.getD_eq_getElem?_getD,List.getD_eq_getElem?_getD,List.getElem?_set_ne h]
theorem P7 (n j:Nat):(List.replicate n (0:Int)).getD j 0=0:=by
 rw [List.getD_eq_getElem?_getD,List.getElem?_replicate]
 split <;> rfl
theorem S6 {l:List Int} {i:Nat} (h:l.length≤i):l.getD i 0=0:=by
 rw [List.getD_eq_getElem?_getD,List.getElem?_eq_none h]
 rfl
theorem r1p (n:Nat):0≤Int.ofNat (n%18446744073709551616)∧Int.ofNat (n%18446744073709551616) < ((W64:Nat):Int):=by
 have:=Nat.mod_lt n b9
 simp only [Int.ofNat_eq_natCast]
 exact⟨by omega,by exact_mod_cast this⟩
theorem e0d {a b c:Nat} (ha:a < W64) (hb:b < W64) (hc:c≤1):(a+b+c)/18446744073709551616≤1:=by
 have:a < 18446744073709551616:=ha
 have:b < 18446744073709551616:=hb
 omega
theorem o0e {n:Nat} {xs ys:List Int} (hx:Dg W64 xs) (hy:Dg W64 ys) {p:IPl} (h:d1x n (val W64 xs) (val W64 ys) p) (hi:p.i < n):d1x n (val W64 xs) (val W64 ys) (lC xs ys p):=by
 obtain⟨h1,h2,h3,h4,h5,h6,h7⟩:=h
 have gx:=C3 b9 hx p.i
 have gy:=C3 b9 hy p.i
 have ex:(xs.getD p.i 0).toNat=dig W64 (val W64 xs) p.i:=by rw [gx,Int.toNat_natCast]
 have ey:(ys.getD p.i 0).toNat=dig W64 (val W64 ys) p.i:=by rw [gy,Int.toNat_natCast]
 have la:=U6 b9 (val W64 xs) p.i
 have lb:=U6 b9 (val W64 ys) p.i
 unfold lC
 rw [y5,ex,ey]
 have hs:=e0d la lb (show p.c.toNat≤1 by omega)
 refine⟨hi,by simp [h2],h3.set (r1p _) _,Int.natCast_nonneg _,?_,fun j hj=> ?_,?_⟩
 ·simp only [Int.ofNat_eq_natCast]
  omega
 ·simp only at hj
  rw [getD_set_ne (by omega)]
  exact h6 j (by omega)
 ·have hv:=V0 (b:=W64) (Int.ofNat ((dig W64 (val W64 xs) p.i+dig W64 (val W64 ys) p.i+p.c.toNat)%18446744073709551616)) (show p.i < p.L.length by omega)
  rw [h6 p.i (Nat.le_refl _)] at hv
  simp only [Int.toNat_zero,Nat.zero_mul,Nat.add_zero,Int.ofNat_eq_natCast,Int.toNat_natCast] at hv
  simp only [Int.ofNat_eq_natCast,Int.toNat_natCast]
  rw [hv]
  exact o1f h7 rfl rfl
theorem eK {xs ys:List Int} (hx:Dg W64 xs) (hy:Dg W64 ys) (n:Nat):∀ k,k≤n→d1x n (val W64 xs) (val W64 ys) (itr (lC xs ys) k (I0 (n+1)))∧(itr (lC xs ys) k (I0 (n+1))).i=k
 | 0,_=>⟨⟨Nat.zero_le _,by simp [itr,I0],Dg.zeros _ b9 _,Int.le_refl _,by simp [itr,I0],fun j _=>P7 _ _,by simp [itr,I0,Q2,Nat.mod_one]⟩,rfl⟩
 | k+1,hk=>by
  obtain⟨h1,h2⟩:=eK hx hy n k (by omega)
  exact⟨o0e hx hy h1 (by omega),by show (itr (lC xs ys) k _).i+1=k+1; rw [h2]⟩
theorem sO {xs ys:List Int} (hx:Dg W64 xs) (hy:Dg W64 ys) {n:Nat} (h1:xs.length≤n) (h2:ys.length≤n) {p:IPl} (h:d1x n (val W64 xs) (val W64 ys) p) (hi:p.i=n):p.L.set n p.c=dl W64 (n+1) (val W64 xs+val W64 ys):=by
 obtain⟨f1,f2,f3,f4,f5,f6,f7⟩:=h
 rw [hi] at f6 f7
 have hv:=V0 (b:=W64) p.c (show n < p.L.length by omega)
 rw [f6 n (Nat.le_refl _)] at hv
 simp only [Int.toNat_zero,Nat.zero_mul,Nat.add_zero] at hv
 have l1:=Nat.lt_of_lt_of_le (I3 b9 hx) (Nat.pow_le_pow_right b9 h1)
 have l2:=Nat.lt_of_lt_of_le (I3 b9 hy) (Nat.pow_le_pow_right b9 h2)
 rw [Nat.mod_eq_of_lt l1,Nat.mod_eq_of_lt l2] at f7
 exact v1k b9 (f3.set ⟨f4,Int.lt_of_le_of_lt f5 (by decide)⟩ _) (by simp [f2]) (by omega)
theorem zW (p q:Nat) (hpq:(p=11∧q=13)∨(p=13∧q=11)) {xs ys:List Int} (hx:Dg W64 xs) (hy:Dg W64 ys) (hb:xs.length < 1099511627776):
  a7 XW0 qW (bQ p q xs ys (List.replicate (xs.length+1) 0) xs.length ys.length (xs.length+1) xs.length 0 0) (.exit 0)
   (bQ p q xs ys (itr (lC xs ys) xs.length (I0 (xs.length+1))).L xs.length ys.length (xs.length+1) xs.length (itr (lC xs ys) xs.length (I0 (xs.length+1))).c xs.length):=by
 refine v8 (fun k=>bQ p q xs ys (itr (lC xs ys) k (I0 (xs.length+1))).L xs.length ys.length (xs.length+1) xs.length (itr (lC xs ys) k (I0 (xs.length+1))).c k) xs.length (by intro e; cases e) (fun k hk=> ?_)
  (g1t xs ys _ xs.length ys.length (xs.length+1) xs.length _ xs.length p q hpq (by simp))
 obtain⟨hg,hi⟩:=eK hx hy xs.length k (by omega)
 simp only [itr]
 generalize itr (lC xs ys) k (I0 (xs.length+1))=s at*
 obtain⟨h1,h2,h3,h4,h5,h6,h7⟩:=hg
 have hw:IntKind.i64.wrap ((k:Int)+1)=((k+1:Nat):Int):=by
  have:=m4 (n:=k+1) (by omega)
  simpa using this
 subst hi
 by_cases hlt2:s.i < ys.length
 ·have:=q0p xs ys s.L xs.length ys.length (xs.length+1) xs.length s.c s.i p q hpq (by simpa using hk) (by simpa using hlt2) ⟨⟨⟨by simp,by simpa using hlt2⟩,by omega⟩,by simpa using hlt2⟩ ⟨⟨⟨by simp,by simpa using hk⟩,by omega⟩,by simpa using hk⟩ (by omega) ⟨⟨⟨by simp,by simp only [Int.ofNat_eq_natCast]; omega⟩,by omega⟩,by simp only [Int.toNat_natCast]; omega⟩
  rw [hw] at this
  exact this
 ·have:=g1x xs ys s.L xs.length ys.length (xs.length+1) xs.length s.c s.i p q hpq (by simpa using hk) (by simpa using hlt2) ⟨⟨⟨by simp,by simpa using hk⟩,by omega⟩,by simpa using hk⟩ (by omega) ⟨⟨⟨by simp,by simp only [Int.ofNat_eq_natCast]; omega⟩,by omega⟩,by simp only [Int.toNat_natCast]; omega⟩
  rw [hw] at this
  unfold lC
  rw [S6 (l:=ys) (i:=s.i) (by omega)]
  exact this
abbrev wS (xs:List Int):Arg:= .c (.s T8 .u64 xs)
section
variable (xs ys L R:List Int) (na nb N:Nat) (la c i:Int)
theorem x0e:n8 XW0 [J5 (.exit 0) (fun _=>bQ 11 13 xs ys L na nb N la c i)] 200 201 [wS xs,wS ys] [wS R] [false] =some [na < L.length,((0:Int)≤(na:Int)∧(na:Int) < (N:Int))∧0 < L.length,
  a7 XW0 qW (m5 XW0 200 201 [wS xs,wS ys] [false]) (.exit 0) (bQ 11 13 xs ys L na nb N la c i),
  0≤IntKind.i64.wrap ((xs.length:Int)+1)∧IntKind.i64.wrap ((xs.length:Int)+1)=IntKind.i64.wrap ((xs.length:Int)+1)∧8*IntKind.i64.wrap ((xs.length:Int)+1)≤281474976710656∧IntKind.i64.wrap ((xs.length:Int)+1)≤9223372036854775807,
  decide ((xs.length:Int) < ys.length)=false,N=R.length∧N≤(bM L na c).length∧(bM L na c).take N=R] :=by kernel_rfl
theorem x0n:n8 XW0 [J5 (.exit 0) (fun _=>bQ 13 11 ys xs L na nb N la c i)] 200 201 [wS xs,wS ys] [wS R] [true] =some [na < L.length,((0:Int)≤(na:Int)∧(na:Int) < (N:Int))∧0 < L.length,
  a7 XW0 qW (m5 XW0 200 201 [wS xs,wS ys] [true]) (.exit 0) (bQ 13 11 ys xs L na nb N la c i),
  0≤IntKind.i64.wrap ((ys.length:Int)+1)∧IntKind.i64.wrap ((ys.length:Int)+1)=IntKind.i64.wrap ((ys.length:Int)+1)∧8*IntKind.i64.wrap ((ys.length:Int)+1)≤281474976710656∧IntKind.i64.wrap ((ys.length:Int)+1)≤9223372036854775807,
  decide ((xs.length:Int) < ys.length)=true,N=R.length∧N≤(bM L na c).length∧(bM L na c).take N=R] :=by kernel_rfl
theorem o0x (x:AX) (s':St) (hw:IntKind.i64.wrap ((xs.length:Int)+1)=((xs.length+1:Nat):Int)) (h:a7 XW0 qW (bQ 11 13 xs ys (List.replicate (xs.length+1) 0) xs.length ys.length (xs.length+1) xs.length 0 0) x s'):
  a7 XW0 qW (m5 XW0 200 201 [wS xs,wS ys] [false]) x s':=by
 have hw2:(IntKind.i64.wrap ((xs.length:Int)+1)).toNat=xs.length+1:=by rw [hw]; rfl
 rw [← hw2] at h
 exact f9 h [] (by kernel_rfl) (by kernel_rfl) (by kernel_rfl)
theorem m0h (x:AX) (s':St) (hw:IntKind.i64.wrap ((ys.length:Int)+1)=((ys.length+1:Nat):Int)) (h:a7 XW0 qW (bQ 13 11 ys xs (List.replicate (ys.length+1) 0) ys.length xs.length (ys.length+1) ys.length 0 0) x s'):
  a7 XW0 qW (m5 XW0 200 201 [wS xs,wS ys] [true]) x s':=by
 have hw2:(IntKind.i64.wrap ((ys.length:Int)+1)).toNat=ys.length+1:=by rw [hw]; rfl
 rw [← hw2] at h
 exact f9 h [] (by kernel_rfl) (by kernel_rfl) (by kernel_rfl)
end
theorem C0 {n:Nat} (h:n < 1099511627776):IntKind.i64.wrap ((n:Int)+1)=((n+1:Nat):Int):=by
 have:=m4 (n:=n+1) (by omega)
 simpa using this
theorem e1o {xs ys:List Int} (hx:Dg W64 xs) (hy:Dg W64 ys) (h1:xs.length < 1099511627776) (h2:ys.length < 1099511627776):
  Ev.Sem Tryz.prog J0 201 [wS xs,wS ys] [wS (dl W64 (max xs.length ys.length+1) (val W64 xs+val W64 ys))] :=by
 by_cases hlt:xs.length < ys.length
 ·have hL:=zW 13 11 (.inr ⟨rfl,rfl⟩) hy hx h2
  have hw:=C0 h2
  obtain⟨hg,hi⟩:=eK hy hx ys.length ys.length (Nat.le_refl _)
  have hlast:=sO hy hx (Nat.le_refl _) (by omega) hg hi
  rw [Nat.max_eq_right (by omega),Nat.add_comm (val W64 xs)]
  refine d9 s5 10 _ _ (x0n xs ys _ _ ys.length xs.length (ys.length+1) ys.length _ ys.length) ⟨?_,⟨⟨by omega,by omega⟩,?_⟩,m0h xs ys _ _ hw hL,⟨?_,rfl,?_,?_⟩,by simpa using hlt,⟨?_,?_,?_⟩,trivial⟩
  ·have:=hg.2.1; omega
  ·have:=hg.2.1; omega
  ·rw [hw]; omega
  ·rw [hw]; omega
  ·rw [hw]; omega
  ·rw [m9]
  ·rw [y5,hlast,m9]; exact Nat.le_refl _
  ·rw [y5,hlast]; exact List.take_of_length_le (by rw [m9]; exact Nat.le_refl _)
 ·have hL:=zW 11 13 (.inl ⟨rfl,rfl⟩) hx hy h1
  have hw:=C0 h1
  obtain⟨hg,hi⟩:=eK hx hy xs.length xs.length (Nat.le_refl _)
  have hlast:=sO hx hy (Nat.le_refl _) (by omega) hg hi
  rw [Nat.max_eq_left (by omega)]
  refine d9 s5 10 _ _ (x0e xs ys _ _ xs.length ys.length (xs.length+1) xs.length _ xs.length) ⟨?_,⟨⟨by omega,by omega⟩,?_⟩,o0x xs ys _ _ hw hL,⟨?_,rfl,?_,?_⟩,by simp; omega,⟨?_,?_,?_⟩,trivial⟩
  ·have:=hg.2.1; omega
  ·have:=hg.2.1; omega
  ·rw [hw]; omega
  ·rw [hw]; omega
  ·rw [hw]; omega
  ·rw [m9]
  ·rw [y5,hlast,m9]; exact Nat.le_refl _
  ·rw [y5,hlast]; exact List.take_of_length_le (by rw [m9]; exact Nat.le_refl _)
abbrev kW:TypeId:=139
noncomputable def a0v:Code:=A2 Tryz.prog 141 0
abbrev slO (off n c:Nat):Value:= .slice (some ⟨11,off,none⟩) n c
def bD (xs:List Int) (neg:Bool) (off m c:Nat):St:=
 ⟨only 30 [(0, .bool neg),(1,slO off m c),(4, .pointer (some ⟨12,0,none⟩))],[(12, .cells [.bool false, .slice none 0 0] kW),(11, .ints .u64 xs)],13,[],[],0,none,[],12⟩
def e0n (xs:List Int) (off m:Nat):Bool:=match decide ((m:Int) > 0) with
 | true=>xs.getD (n7 off (L6 (IntKind.i64.wrap ((m:Int)-1)).toNat 1)) 0==0
 | false=>false
section
variable (xs:List Int) (neg:Bool) (off m c:Nat)
theorem p0u (h0:e0n xs off m=true) (h1:decide ((m:Int) > 0)=true→n7 off (L6 (IntKind.i64.wrap ((m:Int)-1)).toNat 1) < xs.length) (h2:decide ((m:Int) > 0)=true→(0≤IntKind.i64.wrap ((m:Int)-1)∧IntKind.i64.wrap ((m:Int)-1) < m)∧m≤xs.length)
  (h3:(0:Int)≤0∧0≤IntKind.i64.wrap ((m:Int)-1)∧IntKind.i64.wrap ((m:Int)-1)≤c):
  o9 XW0 a0v (bD xs neg off m c) .normal (bD xs neg off (IntKind.i64.wrap ((m:Int)-1)).toNat c):=
 b7 (Base.cx_ok s5 10).1 progOk.mixed [] 200 [true] [] (l:=[(0:Int)≤0∧0≤IntKind.i64.wrap ((m:Int)-1)∧IntKind.i64.wrap ((m:Int)-1)≤c,e0n xs off m=true,
  decide ((m:Int) > 0)=true→n7 off (L6 (IntKind.i64.wrap ((m:Int)-1)).toNat 1) < xs.length,decide ((m:Int) > 0)=true→(0≤IntKind.i64.wrap ((m:Int)-1)∧IntKind.i64.wrap ((m:Int)-1) < m)∧m≤xs.length]) (by kernel_rfl) ⟨h3,h0,h1,h2,trivial⟩ (by kernel_rfl) (by kernel_rfl)
theorem wP (h0:e0n xs off m=false) (h1:decide ((m:Int) > 0)=true→n7 off (L6 (IntKind.i64.wrap ((m:Int)-1)).toNat 1) < xs.length) (h2:decide ((m:Int) > 0)=true→(0≤IntKind.i64.wrap ((m:Int)-1)∧IntKind.i64.wrap ((m:Int)-1) < m)∧m≤xs.length):
  o9 XW0 a0v (bD xs neg off m c) (.exit 0) (bD xs neg off m c):=
 b7 (Base.cx_ok s5 10).1 progOk.mixed [] 200 [false] [] (l:=[e0n xs off m=false,
  decide ((m:Int) > 0)=true→n7 off (L6 (IntKind.i64.wrap ((m:Int)-1)).toNat 1) < xs.length,decide ((m:Int) > 0)=true→(0≤IntKind.i64.wrap ((m:Int)-1)∧IntKind.i64.wrap ((m:Int)-1) < m)∧m≤xs.length]) (by kernel_rfl) ⟨h0,h1,h2,trivial⟩ (by kernel_rfl) (by kernel_rfl)
noncomputable def t1p (n:Nat):St:=o8 XW0 200 141 [.bool neg,slO off n c] [(11, .ints .u64 xs)] 12 []
theorem i0g (n:Nat):k0a XW0 [J5 (.exit 0) (fun _=>bD xs neg off m c)] 200 141 [.bool neg,slO off n c] [(11, .ints .u64 xs)] 12 [] =
  some ⟨.agg ⟨[.bool (match neg with | true=>decide ((m:Int) > 0) | false=>false),slO off m c]⟩,[(11, .ints .u64 xs)],14,[a7 XW0 a0v (t1p xs neg off c n) (.exit 0) (bD xs neg off m c)],[]⟩:=by kernel_rfl
theorem yW (n:Nat) (x:AX) (s':St) (h:a7 XW0 a0v (bD xs neg off n c) x s'):a7 XW0 a0v (t1p xs neg off c n) x s':=
 f9 h [] (by kernel_rfl) (by kernel_rfl) (by kernel_rfl)
end
theorem mV {l:List Int} {m:Nat} (h:m < l.length):l.take (m+1)=l.take m++[l.getD m 0] :=by
 rw [List.take_add_one,List.getElem?_eq_getElem h]
 simp [List.getD,h]
theorem b1s (xs:List Int) (neg:Bool) (off c n:Nat) (hn:off+n≤xs.length) (hc:n≤c) (hb:xs.length < 1099511627776):a7 XW0 a0v (bD xs neg off n c) (.exit 0) (bD xs neg off (m3 ((xs.drop off).take n)).length c):=by
 refine A8 (fun m=>bD xs neg off m c) id (fun m=>m≤n∧m3 ((xs.drop off).take m)=m3 ((xs.drop off).take n)) (by intro e; cases e) (fun m hm=> ?_) n ⟨Nat.le_refl _,rfl⟩
 obtain⟨hle,he⟩:=hm
 rw [← he]
 cases m with
 | zero=>
  right
  have:=wP xs neg off 0 c rfl (fun e=>by simp at e) (fun e=>by simp at e)
  simpa [m3] using this
 | succ m=>
  have hw:IntKind.i64.wrap (((m+1:Nat):Int)-1)=(m:Int):=by
   have:=m4 (n:=m) (by omega)
   rw [← this]
   congr 1
   omega
  have hpos:decide (((m+1:Nat):Int) > 0)=true:=by simp
  have ha:n7 off (L6 (IntKind.i64.wrap (((m+1:Nat):Int)-1)).toNat 1)=off+m:=by rw [hw]; simp
  have h1:decide (((m+1:Nat):Int) > 0)=true→n7 off (L6 (IntKind.i64.wrap (((m+1:Nat):Int)-1)).toNat 1) < xs.length:=fun _=>by rw [ha]; omega
  have h2:decide (((m+1:Nat):Int) > 0)=true→(0≤IntKind.i64.wrap (((m+1:Nat):Int)-1)∧IntKind.i64.wrap (((m+1:Nat):Int)-1) < ((m+1:Nat):Int))∧m+1≤xs.length:=fun _=>by rw [hw]; omega
  have hlz:e0n xs off (m+1)=(xs.getD (off+m) 0==0):=by unfold e0n; rw [hpos,ha]
  have hg:(xs.drop off).getD m 0=xs.getD (off+m) 0:=by simp [List.getD,List.getElem?_drop]
  have ht:=mV (l:=xs.drop off) (m:=m) (by rw [List.length_drop]; omega)
  rw [hg] at ht
  by_cases hz:xs.getD (off+m) 0=0
  ·left
   have hs:=p0u xs neg off (m+1) c (by rw [hlz,hz]; rfl) h1 h2 (by rw [hw]; omega)
   rw [hw] at hs
   refine⟨m,⟨by omega,?_⟩,Nat.lt_succ_self _,hs⟩
   rw [ht,hz,P5,if_pos rfl]
  ·right
   have hs:=wP xs neg off (m+1) c (by rw [hlz]; simpa using hz) h1 h2
   rw [ht,P5,if_neg hz,← ht,List.length_take,List.length_drop,Nat.min_eq_left (by omega)]
   exact hs
theorem S8:Enters Tryz.prog 141:=C6 (Base.cx_ok s5 10).2 (i0g [] false 0 0 0 0)
theorem Z3 (neg:Bool) (b:Option Nat) (off n c:Nat) (xs:List Int) (w:World) (hI:J0.I w) (hn:off+n≤xs.length) (hc:n≤c) (hb:xs.length < 1099511627776)
  (h:(b=none∧xs=[])∨∃ g cs t fr,b=some g∧w.heap[g]? =some (.cells cs t fr)∧∀ i,i < xs.length→cs[i]? =some (.int .u64 (xs.getD i 0))):
  Calls Tryz.prog 141 ⟨[.bool neg, .slice (b.map fun g=>⟨g,off,none⟩) n c]⟩ w fun e w'=>
   e= .returned (.agg ⟨[.bool (match neg with | true=>decide (((m3 ((xs.drop off).take n)).length:Int) > 0) | false=>false), .slice (b.map fun g=>⟨g,off,none⟩) (m3 ((xs.drop off).take n)).length c]⟩)∧Below w.heap.size w w':=by
 have hp:Par Tryz.prog w.heap.size (fun _=>False):=⟨hI.1,fun _ _ h=>h⟩
 have hG:Tryz.prog.globals.size=11:=by kernel_rfl
 obtain⟨hX,_⟩:=Base.cx_ok s5 10
 have hS:∀ ρ':Num,Agree 12 (fun i=>if i=11 then b else some i) ρ'→Sim Tryz.prog w.heap.size (fun _=>False) ρ' [(11, .ints .u64 xs)] w∧([.bool neg, .slice (b.map fun g=>⟨g,off,none⟩) n c] :List Value)=rvL ρ' [.bool neg,slO off n c] :=by
  intro ρ' ha
  have h11:ρ' 11=b:=by rw [ha 11 (by omega)]; simp
  refine⟨⟨fun g hg=>by rw [ha g (by omega)]; simp; omega,fun i o hi=> ?_,fun i j o o' hi hr=> ?_⟩,?_⟩
  ·rw [Heap.get_cons] at hi
   split at hi
   ·rename_i e
    subst e
    cases hi
    rw [h11]
    exact h
   ·simp [Heap.get] at hi
  ·rw [Heap.get_cons] at hi
   split at hi
   ·cases hi; cases hr
   ·simp [Heap.get] at hi
  ·simp only [rvL,rv,rSl,m8,h11]
 refine (F2 hX progOk.mixed (i0g xs neg off _ c n) ⟨yW xs neg off c n _ _ (b1s xs neg off c n hn hc hb),trivial⟩ hp (Nat.le_refl _) hI hS).2.mono fun e w' ⟨ρ1,v,ha,he,hk,hfin⟩=>⟨?_,hk.below⟩
 obtain⟨hv,_⟩:=hfin ρ1 (Agree.refl _ _)
 have h11:ρ1 11=b:=by rw [ha 11 (by omega)]; simp
 rw [he,hv]
 simp only [rv,rvA,rvL,rSl,m8,h11]
def dP (args:List Value) (H:Heap) (n:Nat) (ds:List Bool):Option CR:=
 match args with
 | [.bool neg, .slice (some ⟨id,off,some kk⟩) m c] =>match H.get id with
  | some (.row _ sz (.ints .u64 xs) kk')=>match Nat.beq kk kk' && Nat.beq sz 1 with
   | true=>some ⟨.agg ⟨[.bool (neg && decide (0 < (m3 ((xs.drop off).take m)).length)), .slice (some ⟨id,off,some kk⟩) (m3 ((xs.drop off).take m)).length c]⟩,H,n,[off=c∧off+m≤xs.length∧xs.length < 1099511627776],ds⟩
   | false=>none
  | some (.ints .u64 xs)=>match off,c with
   | 0,0=>some ⟨.agg ⟨[.bool (neg && decide (0 < xs.length)), .slice (some ⟨id,0,some kk⟩) m 0]⟩,H,n,[m=xs.length∧xs.length < 1099511627776∧m3 xs=xs],ds⟩
   | _,_=>none
  | _=>none
 | [.bool neg, .slice (some ⟨id,0,none⟩) m c] =>match H.get id with
  | some (.cells cs _)=>match fC .u64 cs with
   | some xs=>some ⟨.agg ⟨[.bool (neg && decide (0 < (m3 (xs.take m)).length)), .slice (some ⟨id,0,none⟩) (m3 (xs.take m)).length c]⟩,H,n,[m≤xs.length∧m≤c∧xs.length < 1099511627776],ds⟩
   | none=>none
  | _=>none
 | [.bool _, .slice none 0 0] =>some ⟨.agg ⟨[.bool false, .slice none 0 0]⟩,H,n,[],ds⟩
 | _=>none
theorem yJ (neg:Bool) (k:Nat):(match neg with | true=>decide ((k:Int) > 0) | false=>false)=(neg && decide (0 < k)):=by
 cases neg
 ·rfl
 ·simp only [Bool.true_and]
  congr 1
  simp
theorem y7 (l:List Int):(m3 l).length≤l.length:=by
 unfold m3
 rw [List.length_reverse]
 have:=(List.dropWhile_sublist (l:=l.reverse) (fun x=>x==0)).length_le
 simpa using this
theorem n0l {xs:List Int} (h:m3 xs=xs) (hp:0 < xs.length):xs.getD (xs.length-1) 0≠0:=by
 intro hz
 have ht:=mV (l:=xs) (m:=xs.length-1) (by omega)
 rw [Nat.sub_add_cancel hp,List.take_length,hz] at ht
 rw [ht,P5,if_pos rfl] at h
 have h1:=y7 (xs.take (xs.length-1))
 rw [h] at h1
 simp at h1
 omega
theorem jM (neg:Bool) (b:Option Nat) (c:Nat) (xs:List Int) (w:World) (hI:J0.I w) (hb:xs.length < 1099511627776) (ht:m3 xs=xs)
  (h:(b=none∧xs=[])∨∃ g cs t fr,b=some g∧w.heap[g]? =some (.cells cs t fr)∧∀ i,i < xs.length→cs[i]? =some (.int .u64 (xs.getD i 0))):
  Calls Tryz.prog 141 ⟨[.bool neg, .slice (b.map fun g=>⟨g,0,none⟩) xs.length c]⟩ w fun e w'=>
   e= .returned (.agg ⟨[.bool (match neg with | true=>decide ((xs.length:Int) > 0) | false=>false), .slice (b.map fun g=>⟨g,0,none⟩) xs.length c]⟩)∧Below w.heap.size w w':=by
 have hp:Par Tryz.prog w.heap.size (fun _=>False):=⟨hI.1,fun _ _ h=>h⟩
 have hG:Tryz.prog.globals.size=11:=by kernel_rfl
 obtain⟨hX,_⟩:=Base.cx_ok s5 10
 have hS:∀ ρ':Num,Agree 12 (fun i=>if i=11 then b else some i) ρ'→Sim Tryz.prog w.heap.size (fun _=>False) ρ' [(11, .ints .u64 xs)] w∧([.bool neg, .slice (b.map fun g=>⟨g,0,none⟩) xs.length c] :List Value)=rvL ρ' [.bool neg,slO 0 xs.length c] :=by
  intro ρ' ha
  have h11:ρ' 11=b:=by rw [ha 11 (by omega)]; simp
  refine⟨⟨fun g hg=>by rw [ha g (by omega)]; simp; omega,fun i o hi=> ?_,fun i j o o' hi hr=> ?_⟩,?_⟩
  ·rw [Heap.get_cons] at hi
   split at hi
   ·rename_i e
    subst e
    cases hi
    rw [h11]
    exact h
   ·simp [Heap.get] at hi
  ·rw [Heap.get_cons] at hi
   split at hi
   ·cases hi; cases hr
   ·simp [Heap.get] at hi
  ·simp only [rvL,rv,rSl,m8,h11]
 have hout:o9 XW0 a0v (bD xs neg 0 xs.length c) (.exit 0) (bD xs neg 0 xs.length c):=by
  have hw:0 < xs.length→IntKind.i64.wrap ((xs.length:Int)-1)=((xs.length-1:Nat):Int):=fun h0=>by
   have:=m4 (n:=xs.length-1) (by omega)
   rw [← this]
   congr 1
   omega
  refine wP xs neg 0 xs.length c ?_ (fun e=> ?_) (fun e=> ?_)
  ·unfold e0n
   split
   ·rename_i e
    have h0:0 < xs.length:=by simpa using e
    rw [hw h0]
    have:=n0l ht h0
    simpa [n7] using this
   ·rfl
  ·have h0:0 < xs.length:=by simpa using e
   rw [hw h0]
   simp
   omega
  ·have h0:0 < xs.length:=by simpa using e
   rw [hw h0]
   omega
 have hL:a7 XW0 a0v (bD xs neg 0 xs.length c) (.exit 0) (bD xs neg 0 xs.length c):=v8 (fun _=>bD xs neg 0 xs.length c) 0 (by intro e; cases e) (fun k hk=>by omega) hout
 refine (F2 hX progOk.mixed (i0g xs neg 0 xs.length c xs.length) ⟨yW xs neg 0 c xs.length _ _ hL,trivial⟩ hp (Nat.le_refl _) hI hS).2.mono fun e w' ⟨ρ1,v,ha,he,hk,hfin⟩=>⟨?_,hk.below⟩
 obtain⟨hv,_⟩:=hfin ρ1 (Agree.refl _ _)
 have h11:ρ1 11=b:=by rw [ha 11 (by omega)]; simp
 rw [he,hv]
 simp only [rv,rvA,rvL,rSl,m8,h11]
theorem bK:aN Tryz.prog J0 141 dP:=by
 intro args H n ds r h hl
 have fin:∀ {B:Nat} {M:Nat→Prop} {ρ:Num} {w:World} {vs:List Value} {neg:Bool} {u:Value} {v:Value},B≤w.heap.size→(∀ ρ',Agree n ρ ρ'→Sim Tryz.prog B M ρ' H w∧vs=rvL ρ' [.bool neg,u])→
   (Calls Tryz.prog 141 ⟨vs⟩ w fun e w'=>(∃ x,e= .returned x∧∀ ρ',Agree n ρ ρ'→x=rv ρ' v)∧Below w.heap.size w w')→
   Calls Tryz.prog 141 ⟨vs⟩ w fun e w'=>∃ ρ1 x,Agree n ρ ρ1∧e= .returned x∧Keeps B M w w'∧∀ ρ',Agree n ρ1 ρ'→x=rv ρ' v∧Sim Tryz.prog B M ρ' H w':=by
  intro B M ρ w vs neg u v hB hS hc
  exact hc.mono fun e w' ⟨⟨x,he,hx⟩,hb⟩=>⟨ρ,x,Agree.refl _ _,he,Keeps.of_below hb hB,fun ρ' ha=>⟨hx ρ' ha,(hS ρ' ha).1.below hb⟩⟩
 unfold dP at h
 split at h
 ·rename_i neg id off kk m c
  split at h
  ·rename_i e sz xs kk' hget
   split at h
   case h_2=>cases h
   rename_i hc
   simp only [Bool.and_eq_true,Nat.beq_eq] at hc
   obtain⟨rfl,rfl⟩:=hc
   cases h
   obtain⟨rfl,h2,h3⟩:=hl.1
   refine⟨Nat.le_refl _,S8,fun B M ρ w vs hp hB hI hS=>fin hB hS ?_⟩
   have hvs:=(hS ρ (Agree.refl _ _)).2
   rcases (hS ρ (Agree.refl _ _)).1.obj id _ hget with ⟨g1,g2⟩ | ⟨b,cap,cur,g1,g2,⟨fr,g3,_⟩,g4,g5,g6,g7,g8⟩
   ·have hx:xs=[] :=by simpa [Row.list] using g2
    subst hx
    have h0:off=0:=by simp at h2; omega
    have hm:m=0:=by simp at h2; omega
    subst h0 hm
    have:=Z3 neg none 0 0 0 [] w hI (by simp) (Nat.le_refl _) (by simp) (.inl ⟨rfl,rfl⟩)
    have e1:vs=[.bool neg, .slice none 0 0] :=by rw [hvs]; simp [rvL,rv,rSl,g1]
    rw [e1]
    refine this.mono fun e w' ⟨he,hb⟩=>⟨⟨_,he,fun ρ' ha=> ?_⟩,hb⟩
    have e2:=(hS ρ' ha).2
    rw [e1] at e2
    simp only [rvL,rv,List.cons.injEq,and_true] at e2
    simp only [rv,rvA,rvL,yJ]
    have:rSl ρ' ⟨id,0,some kk⟩ (m3 (([] :List Int).drop 0 |>.take 0)).length 0=rSl ρ' ⟨id,0,some kk⟩ 0 0:=rfl
    rw [this,← e2.2]
    rfl
   ·simp only [Row.list,List.length_map,Nat.mul_one] at g6 g7 g8
    rw [O1] at g8
    have hxs:∀ i,i < xs.length→cur[i]? =some (.int .u64 (xs.getD i 0)):=fun i hi=>by
     have:=Y0 (xs:=xs) (n:=xs.length) hi .u64 hi
     rw [List.take_length,← g8,List.getElem?_take,if_pos hi] at this
     simpa using this
    have:=Z3 neg (some b) off m (cap-off) xs w hI h2 (by omega) h3 (.inr ⟨b,cur,e,fr,rfl,g3,hxs⟩)
    have e1:vs=[.bool neg, .slice (some ⟨b,off,none⟩) m (cap-off)] :=by rw [hvs]; simp [rvL,rv,rSl,g1,g2]
    rw [e1]
    refine this.mono fun e w' ⟨he,hb⟩=>⟨⟨_,he,fun ρ' ha=> ?_⟩,hb⟩
    rcases (hS ρ' ha).1.obj id _ hget with ⟨q1,q2⟩ | ⟨b',cap',cur',q1,q2,⟨fr',q3,_⟩,_⟩
    ·have hx:xs=[] :=by simpa [Row.list] using q2
     have e2:=(hS ρ' ha).2
     rw [e1] at e2
     simp [rvL,rv,rSl,q1] at e2
    ·have e2:=(hS ρ' ha).2
     rw [e1] at e2
     simp [rvL,rv,rSl,q1,q2] at e2
     simp only [rv,rvA,rvL,rSl,q1,q2,yJ,Option.getD_some,Option.map_some,← e2.1,← e2.2]
  ·rename_i xs hget
   split at h
   case h_2=>cases h
   cases h
   obtain⟨rfl,h2,h3⟩:=hl.1
   refine⟨Nat.le_refl _,S8,fun B M ρ w vs hp hB hI hS=>fin hB hS ?_⟩
   have hvs:=(hS ρ (Agree.refl _ _)).2
   have hobj:(ρ id=none∧xs=[])∨∃ g cs t fr,ρ id=some g∧w.heap[g]? =some (.cells cs t fr)∧∀ i,i < xs.length→cs[i]? =some (.int .u64 (xs.getD i 0)):=(hS ρ (Agree.refl _ _)).1.obj id _ hget
   have e1:∃ cap,vs=[.bool neg, .slice ((ρ id).map fun g=>⟨g,0,none⟩) xs.length cap] :=by
    cases hq:ρ id with
    | none=>exact⟨0,by rw [hvs]; simp [rvL,rv,rSl,hq]⟩
    | some g=>exact⟨_,by rw [hvs]; simp [rvL,rv,rSl,hq]; rfl⟩
   obtain⟨cap,e1⟩:=e1
   have:=jM neg (ρ id) cap xs w hI h2 h3 hobj
   rw [← e1] at this
   refine this.mono fun e w' ⟨he,hb⟩=>⟨⟨_,he,fun ρ' ha=> ?_⟩,hb⟩
   have e2:=(hS ρ' ha).2
   rw [e1] at e2
   simp only [rvL,rv,List.cons.injEq,and_true] at e2
   simp only [rv,rvA,rvL,yJ,← e2.2]
  ·cases h
 ·rename_i neg id m c
  split at h
  case h_2=>cases h
  rename_i cs e hget
  split at h
  case h_2=>cases h
  rename_i xs ht
  cases h
  obtain⟨h1,h2,h3⟩:=hl.1
  have hcs:=F5 ht
  subst hcs
  refine⟨Nat.le_refl _,S8,fun B M ρ w vs hp hB hI hS=>fin hB hS ?_⟩
  have hvs:=(hS ρ (Agree.refl _ _)).2
  obtain⟨b,g1,g2,_⟩:=(hS ρ (Agree.refl _ _)).1.obj id _ hget
  rw [O1] at g2
  have hxs:∀ i,i < xs.length→(xs.map (Value.int .u64)).toArray[i]? =some (.int .u64 (xs.getD i 0)):=fun i hi=>by
   have:=Y0 (xs:=xs) (n:=xs.length) hi .u64 hi
   rw [List.take_length] at this
   simpa using this
  have:=Z3 neg (some b) 0 m c xs w hI (by omega) h2 h3 (.inr ⟨b,_,e,(0,0),rfl,g2,hxs⟩)
  have e1:vs=[.bool neg, .slice (some ⟨b,0,none⟩) m c] :=by rw [hvs]; simp [rvL,rv,rSl,m8,g1]
  rw [e1]
  refine this.mono fun e w' ⟨he,hb⟩=>⟨⟨_,he,fun ρ' ha=> ?_⟩,hb⟩
  obtain⟨b',q1,q2,_⟩:=(hS ρ' ha).1.obj id _ hget
  have e2:=(hS ρ' ha).2
  rw [e1] at e2
  simp [rvL,rv,rSl,m8,q1] at e2
  simp only [rv,rvA,rvL,rSl,m8,q1,yJ,Option.map_some,← e2,List.drop_zero]
 ·rename_i neg
  cases h
  refine⟨Nat.le_refl _,S8,fun B M ρ w vs hp hB hI hS=>fin hB hS ?_⟩
  have hvs:=(hS ρ (Agree.refl _ _)).2
  have:=Z3 neg none 0 0 0 [] w hI (by simp) (Nat.le_refl _) (by simp) (.inl ⟨rfl,rfl⟩)
  have e1:vs=[.bool neg, .slice none 0 0] :=by rw [hvs]; simp [rvL,rv]
  rw [e1]
  refine this.mono fun e w' ⟨he,hb⟩=>⟨⟨_,he,fun ρ' ha=> ?_⟩,hb⟩
  simp only [rv,rvA,rvL]
  cases neg <;> rfl
 ·cases h
noncomputable def d0s:Code:=A2 Tryz.prog 202 0
def p0s (xs ys L:List Int) (na nb N:Nat) (la c i:Int):St:=
 ⟨only 40 [(0,slV 11 na),(1,slV 13 nb),(5,slV 15 N),(6, .int .u64 c),(12,slV 11 na),(13, .int .i64 la),(14, .int .i64 i)],[(15, .row T8 1 (.ints .u64 L) 16),(11, .ints .u64 xs),(13, .ints .u64 ys)],17,[],[],0,none,[],15⟩
section
variable (xs ys L R:List Int) (na nb N:Nat) (la c i:Int)
theorem i1q (h0:decide (i < la)=true) (h1:decide (i < Int.ofNat nb)=true) (h2:((Int.ofNat 0≤i∧i < Int.ofNat nb)∧0 < ys.length)∧i.toNat < ys.length)
  (h3:((Int.ofNat 0≤i∧i < Int.ofNat na)∧0 < xs.length)∧i.toNat < xs.length) (h4:c.toNat≤1) (h5:((Int.ofNat 0≤i∧i < Int.ofNat N)∧0 < L.length)∧i.toNat < L.length):
  o9 XW0 d0s (p0s xs ys L na nb N la c i) .normal (p0s xs ys (bM L i.toNat (vI (xs.getD i.toNat 0) (ys.getD i.toNat 0) c)) na nb N la (uA (xs.getD i.toNat 0) (ys.getD i.toNat 0) c) (IntKind.i64.wrap (i+1))):=
 b7 (Base.cx_ok s5 10).1 progOk.mixed [] 200 [true,true] [] (l:=[i.toNat < L.length,(Int.ofNat 0≤i∧i < Int.ofNat N)∧0 < L.length,c.toNat≤1,i.toNat < xs.length,(Int.ofNat 0≤i∧i < Int.ofNat na)∧0 < xs.length,i.toNat < ys.length,
   (Int.ofNat 0≤i∧i < Int.ofNat nb)∧0 < ys.length,decide (i < Int.ofNat nb)=true,decide (i < la)=true]) (by kernel_rfl) ⟨h5.2,h5.1,h4,h3.2,h3.1,h2.2,h2.1,h1,h0,trivial⟩ (by kernel_rfl) (by kernel_rfl)
theorem p1c (h0:decide (i < la)=true) (h1:decide (i < Int.ofNat nb)=false)
  (h3:((Int.ofNat 0≤i∧i < Int.ofNat na)∧0 < xs.length)∧i.toNat < xs.length) (h4:c.toNat≤1) (h5:((Int.ofNat 0≤i∧i < Int.ofNat N)∧0 < L.length)∧i.toNat < L.length):
  o9 XW0 d0s (p0s xs ys L na nb N la c i) .normal (p0s xs ys (bM L i.toNat (vI (xs.getD i.toNat 0) 0 c)) na nb N la (uA (xs.getD i.toNat 0) 0 c) (IntKind.i64.wrap (i+1))):=
 b7 (Base.cx_ok s5 10).1 progOk.mixed [] 200 [true,false] [] (l:=[i.toNat < L.length,(Int.ofNat 0≤i∧i < Int.ofNat N)∧0 < L.length,c.toNat≤1,i.toNat < xs.length,(Int.ofNat 0≤i∧i < Int.ofNat na)∧0 < xs.length,
   decide (i < Int.ofNat nb)=false,decide (i < la)=true]) (by kernel_rfl) ⟨h5.2,h5.1,h4,h3.2,h3.1,h1,h0,trivial⟩ (by kernel_rfl) (by kernel_rfl)
theorem n1r (h0:decide (i < la)=false):o9 XW0 d0s (p0s xs ys L na nb N la c i) (.exit 0) (p0s xs ys L na nb N la c i):=
 b7 (Base.cx_ok s5 10).1 progOk.mixed [] 200 [false] [] (l:=[decide (i < la)=false]) (by kernel_rfl) ⟨h0,trivial⟩ (by kernel_rfl) (by kernel_rfl)
theorem m1p:n8 XW0 [J5 (.exit 0) (fun _=>p0s xs ys L na nb N la c i)] 200 202 [wS xs,wS ys] [wS R] [] =some [
  a7 XW0 d0s (m5 XW0 200 202 [wS xs,wS ys] []) (.exit 0) (p0s xs ys L na nb N la c i),
  (0:Int)≤xs.length∧(xs.length:Int)=xs.length∧(8:Int)*xs.length≤281474976710656∧(xs.length:Int)≤9223372036854775807,N=R.length∧N≤L.length∧L.take N=R] :=by kernel_rfl
theorem f1q (x:AX) (s':St) (h:a7 XW0 d0s (p0s xs ys (List.replicate xs.length 0) xs.length ys.length xs.length xs.length 0 0) x s'):
  a7 XW0 d0s (m5 XW0 200 202 [wS xs,wS ys] []) x s':=
 f9 h [] (by kernel_rfl) (by kernel_rfl) (by kernel_rfl)
end
theorem g1b {a b c:Nat} (ha:a < W64) (hb:b < W64) (hc:c≤1):∃ lo hi:Nat,vI a b c=lo∧uA a b c=hi∧lo < W64∧hi≤1∧lo+b+c=a+W64*hi:=by
 have ha:a < 18446744073709551616:=ha
 have hb:b < 18446744073709551616:=hb
 refine⟨_,_,rfl,rfl,Nat.mod_lt _ b9,?_,?_⟩
 ·split <;> omega
 ·simp only [Int.toNat_natCast]
  have hW:W64=18446744073709551616:=rfl
  rw [hW]
  split
  ·rename_i h
   have h:a < b+c:=by simpa [Nat.blt_eq] using h
   omega
  ·rename_i h
   have h:¬ a < b+c:=fun hlt=>by
    have:Nat.blt a (b+c)=true:=by simpa [Nat.blt_eq] using hlt
    rw [this] at h
    cases h
   omega
def g1y (n A B:Nat) (p:IPl):Prop:=
 p.i≤n∧p.L.length=n∧Dg W64 p.L∧0≤p.c∧p.c≤1∧(∀ j,p.i≤j→p.L.getD j 0=0)∧val W64 p.L+B%W64 ^p.i=A%W64 ^p.i+p.c.toNat*W64 ^p.i
noncomputable def jN (xs ys:List Int) (p:IPl):IPl:=
 ⟨p.i+1,uA (xs.getD p.i 0) (ys.getD p.i 0) p.c,bM p.L p.i (vI (xs.getD p.i 0) (ys.getD p.i 0) p.c)⟩
theorem o0q {n:Nat} {xs ys:List Int} (hx:Dg W64 xs) (hy:Dg W64 ys) {p:IPl} (h:g1y n (val W64 xs) (val W64 ys) p) (hi:p.i < n):g1y n (val W64 xs) (val W64 ys) (jN xs ys p):=by
 obtain⟨h1,h2,h3,h4,h5,h6,h7⟩:=h
 have gx:=C3 b9 hx p.i
 have gy:=C3 b9 hy p.i
 obtain⟨lo,hi',e1,e2,e3,e4,e5⟩:=g1b (U6 b9 (val W64 xs) p.i) (U6 b9 (val W64 ys) p.i) (show p.c.toNat≤1 by omega)
 have ec:p.c=(p.c.toNat:Int):=by omega
 unfold jN
 rw [y5,gx,gy,ec,e1,e2]
 refine⟨hi,by simp [h2],h3.set ⟨by omega,by exact_mod_cast e3⟩ _,by simp only; omega,by simp only; omega,fun j hj=> ?_,?_⟩
 ·simp only at hj
  rw [getD_set_ne (by omega)]
  exact h6 j (by omega)
 ·have hv:=V0 (b:=W64) (lo:Int) (show p.i < p.L.length by omega)
  rw [h6 p.i (Nat.le_refl _)] at hv
  simp only [Int.toNat_zero,Nat.zero_mul,Nat.add_zero,Int.toNat_natCast] at hv
  simp only [Int.toNat_natCast]
  rw [hv,bC,bC,Nat.pow_succ]
  have q1:(lo+dig W64 (val W64 ys) p.i+p.c.toNat)*W64 ^p.i=(dig W64 (val W64 xs) p.i+W64*hi')*W64 ^p.i:=by rw [e5]
  rw [Nat.add_mul,Nat.add_mul,Nat.add_mul] at q1
  have q2:hi'*(W64 ^p.i*W64)=W64*hi'*W64 ^p.i:=by rw [Nat.mul_comm (W64 ^p.i),← Nat.mul_assoc,Nat.mul_comm hi']
  omega
theorem W5 {xs ys:List Int} (hx:Dg W64 xs) (hy:Dg W64 ys) (n:Nat):∀ k,k≤n→g1y n (val W64 xs) (val W64 ys) (itr (jN xs ys) k (I0 n))∧(itr (jN xs ys) k (I0 n)).i=k
 | 0,_=>⟨⟨Nat.zero_le _,by simp [itr,I0],Dg.zeros _ b9 _,Int.le_refl _,by simp [itr,I0],fun j _=>P7 _ _,by simp [itr,I0,Q2,Nat.mod_one]⟩,rfl⟩
 | k+1,hk=>by
  obtain⟨h1,h2⟩:=W5 hx hy n k (by omega)
  exact⟨o0q hx hy h1 (by omega),by show (itr (jN xs ys) k _).i+1=k+1; rw [h2]⟩
theorem sM {xs ys:List Int} (hx:Dg W64 xs) (hy:Dg W64 ys) {n:Nat} (h1:xs.length≤n) (h2:ys.length≤n) (hle:val W64 ys≤val W64 xs) {p:IPl} (h:g1y n (val W64 xs) (val W64 ys) p) (hi:p.i=n):p.L=dl W64 n (val W64 xs-val W64 ys):=by
 obtain⟨f1,f2,f3,f4,f5,f6,f7⟩:=h
 rw [hi] at f7
 have l1:=Nat.lt_of_lt_of_le (I3 b9 hx) (Nat.pow_le_pow_right b9 h1)
 have l2:=Nat.lt_of_lt_of_le (I3 b9 hy) (Nat.pow_le_pow_right b9 h2)
 have l3:=I3 b9 f3
 rw [f2] at l3
 rw [Nat.mod_eq_of_lt l1,Nat.mod_eq_of_lt l2] at f7
 have hc:p.c.toNat=0:=by
  rcases Nat.lt_or_ge p.c.toNat 1 with h | h
  ·omega
  ·have:p.c.toNat=1:=by omega
   rw [this] at f7
   omega
 rw [hc] at f7
 exact v1k b9 f3 f2 (by omega)
theorem w0u {xs ys:List Int} (hx:Dg W64 xs) (hy:Dg W64 ys) (hle:val W64 ys≤val W64 xs) (h1:xs.length < 1099511627776) (h2:ys.length≤xs.length):
  Ev.Sem Tryz.prog J0 202 [wS xs,wS ys] [wS (dl W64 xs.length (val W64 xs-val W64 ys))] :=by
 obtain⟨hg,hi⟩:=W5 hx hy xs.length xs.length (Nat.le_refl _)
 have hlast:=sM hx hy (Nat.le_refl _) h2 hle hg hi
 have hL:a7 XW0 d0s (p0s xs ys (List.replicate xs.length 0) xs.length ys.length xs.length xs.length 0 0) (.exit 0)
   (p0s xs ys (itr (jN xs ys) xs.length (I0 xs.length)).L xs.length ys.length xs.length xs.length (itr (jN xs ys) xs.length (I0 xs.length)).c xs.length):=by
  refine v8 (fun k=>p0s xs ys (itr (jN xs ys) k (I0 xs.length)).L xs.length ys.length xs.length xs.length (itr (jN xs ys) k (I0 xs.length)).c k) xs.length (by intro e; cases e) (fun k hk=> ?_)
   (n1r xs ys _ xs.length ys.length xs.length _ _ xs.length (by simp))
  obtain⟨hg,hi⟩:=W5 hx hy xs.length k (by omega)
  simp only [itr]
  generalize itr (jN xs ys) k (I0 xs.length)=s at*
  obtain⟨h1',h2',h3,h4,h5,h6,h7⟩:=hg
  have hw:=C0 (n:=k) (by omega)
  subst hi
  by_cases hlt2:s.i < ys.length
  ·have:=i1q xs ys s.L xs.length ys.length xs.length xs.length s.c s.i (by simpa using hk) (by simpa using hlt2) ⟨⟨⟨by simp,by simpa using hlt2⟩,by omega⟩,by simpa using hlt2⟩ ⟨⟨⟨by simp,by simpa using hk⟩,by omega⟩,by simpa using hk⟩ (by omega) ⟨⟨⟨by simp,by simp only [Int.ofNat_eq_natCast]; omega⟩,by omega⟩,by simp only [Int.toNat_natCast]; omega⟩
   rw [hw] at this
   exact this
  ·have:=p1c xs ys s.L xs.length ys.length xs.length xs.length s.c s.i (by simpa using hk) (by simpa using hlt2) ⟨⟨⟨by simp,by simpa using hk⟩,by omega⟩,by simpa using hk⟩ (by omega) ⟨⟨⟨by simp,by simp only [Int.ofNat_eq_natCast]; omega⟩,by omega⟩,by simp only [Int.toNat_natCast]; omega⟩
   rw [hw] at this
   unfold jN
   rw [S6 (l:=ys) (i:=s.i) (by omega)]
   exact this
 refine d9 s5 10 _ _ (m1p xs ys _ _ _ _ _ _ _ _) ⟨f1q xs ys _ _ hL,⟨by omega,rfl,by omega,by omega⟩,⟨?_,?_,?_⟩,trivial⟩
 ·rw [m9]
 ·rw [hg.2.1]; exact Nat.le_refl _
 ·rw [hlast]
  exact List.take_of_length_le (by rw [m9]; exact Nat.le_refl _)
noncomputable def bF:Code:=A2 Tryz.prog 197 0
def rF (xs ys:List Int) (na nb:Nat) (i:Int):St:=⟨only 43 [(0,slV 11 na),(1,slV 13 nb),(5, .int .i64 i)],[(11, .ints .u64 xs),(13, .ints .u64 ys)],15,[],[],0,none,[],15⟩
def j1h (xs ys:List Int) (na nb:Nat) (r:Int):St:=⟨only 43 [(0,slV 11 na),(1,slV 13 nb),(4, .int .i64 r)],[(11, .ints .u64 xs),(13, .ints .u64 ys)],15,[],[],0,none,[],15⟩
section
variable (xs ys:List Int) (na nb:Nat) (i r:Int)
abbrev inB (ys:List Int) (nb:Nat) (i:Int):Prop:=((Int.ofNat 0≤i∧i < Int.ofNat nb)∧0 < ys.length)∧i.toNat < ys.length
theorem f1y (h0:decide (0≤i)=true) (hx:inB xs na i) (hy:inB ys nb i) (h1:decide (xs.getD i.toNat 0 < ys.getD i.toNat 0)=true):o9 XW0 bF (rF xs ys na nb i) .ret (j1h xs ys na nb (-1)):=
 b7 (Base.cx_ok s5 10).1 progOk.mixed [] 200 [true,true] [] (l:=[decide (xs.getD i.toNat 0 < ys.getD i.toNat 0)=true,i.toNat < ys.length,(Int.ofNat 0≤i∧i < Int.ofNat nb)∧0 < ys.length,i.toNat < xs.length,(Int.ofNat 0≤i∧i < Int.ofNat na)∧0 < xs.length,decide (0≤i)=true])
  (by kernel_rfl) ⟨h1,hy.2,hy.1,hx.2,hx.1,h0,trivial⟩ (by kernel_rfl) (by kernel_rfl)
theorem d1o (h0:decide (0≤i)=true) (hx:inB xs na i) (hy:inB ys nb i) (h1:decide (xs.getD i.toNat 0 < ys.getD i.toNat 0)=false) (h2:decide (ys.getD i.toNat 0 < xs.getD i.toNat 0)=true):o9 XW0 bF (rF xs ys na nb i) .ret (j1h xs ys na nb 1):=
 b7 (Base.cx_ok s5 10).1 progOk.mixed [] 200 [true,false,true] [] (l:=[decide (ys.getD i.toNat 0 < xs.getD i.toNat 0)=true,i.toNat < ys.length,(Int.ofNat 0≤i∧i < Int.ofNat nb)∧0 < ys.length,i.toNat < xs.length,(Int.ofNat 0≤i∧i < Int.ofNat na)∧0 < xs.length,
  decide (xs.getD i.toNat 0 < ys.getD i.toNat 0)=false,i.toNat < ys.length,(Int.ofNat 0≤i∧i < Int.ofNat nb)∧0 < ys.length,i.toNat < xs.length,(Int.ofNat 0≤i∧i < Int.ofNat na)∧0 < xs.length,decide (0≤i)=true])
  (by kernel_rfl) ⟨h2,hy.2,hy.1,hx.2,hx.1,h1,hy.2,hy.1,hx.2,hx.1,h0,trivial⟩ (by kernel_rfl) (by kernel_rfl)
theorem h1u (h0:decide (0≤i)=true) (hx:inB xs na i) (hy:inB ys nb i) (h1:decide (xs.getD i.toNat 0 < ys.getD i.toNat 0)=false) (h2:decide (ys.getD i.toNat 0 < xs.getD i.toNat 0)=false):o9 XW0 bF (rF xs ys na nb i) .normal (rF xs ys na nb (IntKind.i64.wrap (i-1))):=
 b7 (Base.cx_ok s5 10).1 progOk.mixed [] 200 [true,false,false] [] (l:=[decide (ys.getD i.toNat 0 < xs.getD i.toNat 0)=false,i.toNat < ys.length,(Int.ofNat 0≤i∧i < Int.ofNat nb)∧0 < ys.length,i.toNat < xs.length,(Int.ofNat 0≤i∧i < Int.ofNat na)∧0 < xs.length,
  decide (xs.getD i.toNat 0 < ys.getD i.toNat 0)=false,i.toNat < ys.length,(Int.ofNat 0≤i∧i < Int.ofNat nb)∧0 < ys.length,i.toNat < xs.length,(Int.ofNat 0≤i∧i < Int.ofNat na)∧0 < xs.length,decide (0≤i)=true])
  (by kernel_rfl) ⟨h2,hy.2,hy.1,hx.2,hx.1,h1,hy.2,hy.1,hx.2,hx.1,h0,trivial⟩ (by kernel_rfl) (by kernel_rfl)
theorem r1h (h0:decide (0≤i)=false):o9 XW0 bF (rF xs ys na nb i) (.exit 0) (rF xs ys na nb i):=
 b7 (Base.cx_ok s5 10).1 progOk.mixed [] 200 [false] [] (l:=[decide (0≤i)=false]) (by kernel_rfl) ⟨h0,trivial⟩ (by kernel_rfl) (by kernel_rfl)
theorem f1h:n8 XW0 [] 200 197 [wS xs,wS ys] [.c (.v (.int .i64 r))] [true] =some [((xs.length:Int) !=ys.length)=true,Value.int .i64 (IntKind.i64.wrap ((xs.length:Int)-ys.length))=Value.int .i64 r] :=by kernel_rfl
theorem d1b:n8 XW0 [J5 (.exit 0) (fun _=>rF xs ys na nb i)] 200 197 [wS xs,wS ys] [.c (.v (.int .i64 r))] [false] =some [a7 XW0 bF (m5 XW0 200 197 [wS xs,wS ys] [false]) (.exit 0) (rF xs ys na nb i),
  ((xs.length:Int) !=ys.length)=false,Value.int .i64 0=Value.int .i64 r] :=by kernel_rfl
theorem l0m (q:Int):n8 XW0 [J5 .ret (fun _=>j1h xs ys na nb q)] 200 197 [wS xs,wS ys] [.c (.v (.int .i64 r))] [false] =some [a7 XW0 bF (m5 XW0 200 197 [wS xs,wS ys] [false]) .ret (j1h xs ys na nb q),
  ((xs.length:Int) !=ys.length)=false,Value.int .i64 q=Value.int .i64 r] :=by kernel_rfl
theorem xB (x:AX) (s':St) (h:a7 XW0 bF (rF xs ys xs.length ys.length (IntKind.i64.wrap ((xs.length:Int)-1))) x s'):a7 XW0 bF (m5 XW0 200 197 [wS xs,wS ys] [false]) x s':=
 f9 h [] (by kernel_rfl) (by kernel_rfl) (by kernel_rfl)
end
def fX (xs ys:List Int):Int:=
 if xs.length≠ys.length then (xs.length:Int)-ys.length else if val W64 xs < val W64 ys then -1 else if val W64 ys < val W64 xs then 1 else 0
theorem z6 {l:List Int} {m:Nat} (h:m < l.length):l.drop m=l.getD m 0 ::l.drop (m+1):=by
 rw [List.drop_eq_getElem_cons h]
 simp [List.getD,h]
theorem vC {l l':List Int} (hl:Dg W64 l) {m:Nat} (h1:m < l.length) (h2:m < l'.length) (hd:l.drop (m+1)=l'.drop (m+1)) (hlt:l.getD m 0 < l'.getD m 0):val W64 l < val W64 l':=by
 rw [u6 W64 l m (by omega),u6 W64 l' m (by omega),z6 h1,z6 h2,hd]
 simp only [val]
 have a1:=I3 b9 (hl.take m)
 rw [List.length_take,Nat.min_eq_left (by omega)] at a1
 have g1:=(hl.get b9 m).1
 have:(l.getD m 0).toNat+1≤(l'.getD m 0).toNat:=by omega
 generalize val W64 (l'.drop (m+1))=D at*
 have a2:W64 ^m*((l.getD m 0).toNat+1+W64*D)≤W64 ^m*((l'.getD m 0).toNat+W64*D):=Nat.mul_le_mul_left _ (by omega)
 have a3:W64 ^m*((l.getD m 0).toNat+1+W64*D)=W64 ^m*((l.getD m 0).toNat+W64*D)+W64 ^m:=by rw [Nat.add_right_comm,Nat.mul_add,Nat.mul_one]
 omega
theorem h0c {xs ys:List Int} (hx:Dg W64 xs) (hy:Dg W64 ys) (h1:xs.length < 1099511627776) (h2:ys.length < 1099511627776):
  Ev.Sem Tryz.prog J0 197 [wS xs,wS ys] [.c (.v (.int .i64 (fX xs ys)))] :=by
 by_cases hn:xs.length=ys.length
 case neg=>
  refine d9 s5 10 _ _ (f1h xs ys _) ⟨by simp; omega,?_,trivial⟩
  unfold fX
  rw [if_pos hn]
  have:=IntKind.wrap_i64 ((xs.length:Int)-ys.length)
  congr 1
  omega
 have hw:∀ m:Nat,m < xs.length→IntKind.i64.wrap (((m+1:Nat):Int)-1)=(m:Int):=fun m hm=>by
  have:=m4 (n:=m) (by omega)
  rw [← this]
  congr 1
  omega
 have hw1:IntKind.i64.wrap ((xs.length:Int)-1)=(xs.length:Int)-1:=by
  have:=IntKind.wrap_i64 ((xs.length:Int)-1)
  omega
 have hws:∀ m:Nat,m < xs.length→IntKind.i64.wrap ((m:Int)-1)=(m:Int)-1:=fun m hm=>by
  have:=IntKind.wrap_i64 ((m:Int)-1)
  omega
 have step:∀ m,m < xs.length→xs.drop (m+1)=ys.drop (m+1)→
   (val W64 xs < val W64 ys∧o9 XW0 bF (rF xs ys xs.length ys.length m) .ret (j1h xs ys xs.length ys.length (-1)))∨
   (val W64 ys < val W64 xs∧o9 XW0 bF (rF xs ys xs.length ys.length m) .ret (j1h xs ys xs.length ys.length 1))∨
   (xs.drop m=ys.drop m∧o9 XW0 bF (rF xs ys xs.length ys.length m) .normal (rF xs ys xs.length ys.length ((m:Int)-1))):=by
  intro m hm hd
  have bx:inB xs xs.length (m:Int):=⟨⟨⟨by simp,by simpa using hm⟩,by omega⟩,by simpa using hm⟩
  have bY:inB ys ys.length (m:Int):=⟨⟨⟨by simp,by simp only [Int.ofNat_eq_natCast]; omega⟩,by omega⟩,by simp only [Int.toNat_natCast]; omega⟩
  rcases Int.lt_trichotomy (xs.getD m 0) (ys.getD m 0) with h | h | h
  ·exact .inl ⟨vC hx hm (by omega) hd h,f1y xs ys _ _ m (by simp) bx bY (by simpa using h)⟩
  ·right; right
   refine⟨by rw [z6 (l:=xs) (m:=m) hm,z6 (l:=ys) (m:=m) (by omega),h,hd],?_⟩
   have:=h1u xs ys xs.length ys.length m (by simp) bx bY (by simp only [Int.toNat_natCast,decide_eq_false_iff_not]; omega) (by simp only [Int.toNat_natCast,decide_eq_false_iff_not]; omega)
   rw [hws m hm] at this
   exact this
  ·exact .inr (.inl ⟨vC hy (by omega) hm hd.symm h,d1o xs ys _ _ m (by simp) bx bY (by simp only [Int.toNat_natCast,decide_eq_false_iff_not]; omega) (by simpa using h)⟩)
 have good:∀ m,m≤xs.length→xs.drop m=ys.drop m→
   (val W64 xs < val W64 ys∧a7 XW0 bF (rF xs ys xs.length ys.length ((m:Int)-1)) .ret (j1h xs ys xs.length ys.length (-1)))∨
   (val W64 ys < val W64 xs∧a7 XW0 bF (rF xs ys xs.length ys.length ((m:Int)-1)) .ret (j1h xs ys xs.length ys.length 1))∨
   (xs=ys∧a7 XW0 bF (rF xs ys xs.length ys.length ((m:Int)-1)) (.exit 0) (rF xs ys xs.length ys.length (-1))):=by
  intro m hm hd
  rcases Nat.lt_trichotomy (val W64 xs) (val W64 ys) with h | h | h
  ·refine .inl ⟨h,?_⟩
   refine A8 (fun m:Nat=>rF xs ys xs.length ys.length ((m:Int)-1)) id (fun m=>m≤xs.length∧xs.drop m=ys.drop m) (by intro e; cases e) (fun k hk=> ?_) m ⟨hm,hd⟩
   cases k with
   | zero=>
    have:xs=ys:=by simpa using hk.2
    rw [this] at h
    omega
   | succ k=>
    have e:(((k+1:Nat):Int)-1)=(k:Int):=by omega
    simp only [e]
    rcases step k (by omega) hk.2 with ⟨_,s⟩ | ⟨q,_⟩ | ⟨q,s⟩
    ·exact .inr s
    ·omega
    ·exact .inl ⟨k,⟨by omega,q⟩,Nat.lt_succ_self _,s⟩
  ·refine .inr (.inr ?_)
   have he:=uJ b9 hx hy hn h
   refine⟨he,?_⟩
   refine A8 (fun m:Nat=>rF xs ys xs.length ys.length ((m:Int)-1)) id (fun m=>m≤xs.length∧xs.drop m=ys.drop m) (by intro e; cases e) (fun k hk=> ?_) m ⟨hm,hd⟩
   cases k with
   | zero=>
    right
    exact r1h xs ys xs.length ys.length (-1) (by decide)
   | succ k=>
    have e:(((k+1:Nat):Int)-1)=(k:Int):=by omega
    simp only [e]
    rcases step k (by omega) hk.2 with ⟨q,_⟩ | ⟨q,_⟩ | ⟨q,s⟩
    ·omega
    ·omega
    ·exact .inl ⟨k,⟨by omega,q⟩,Nat.lt_succ_self _,s⟩
  ·refine .inr (.inl ⟨h,?_⟩)
   refine A8 (fun m:Nat=>rF xs ys xs.length ys.length ((m:Int)-1)) id (fun m=>m≤xs.length∧xs.drop m=ys.drop m) (by intro e; cases e) (fun k hk=> ?_) m ⟨hm,hd⟩
   cases k with
   | zero=>
    have:xs=ys:=by simpa using hk.2
    rw [this] at h
    omega
   | succ k=>
    have e:(((k+1:Nat):Int)-1)=(k:Int):=by omega
    simp only [e]
    rcases step k (by omega) hk.2 with ⟨q,_⟩ | ⟨_,s⟩ | ⟨q,s⟩
    ·omega
    ·exact .inr s
    ·exact .inl ⟨k,⟨by omega,q⟩,Nat.lt_succ_self _,s⟩
 have hne:((xs.length:Int) !=ys.length)=false:=by simp [hn]
 rcases good xs.length (Nat.le_refl _) (by rw [List.drop_length,hn,List.drop_length]) with ⟨h,s⟩ | ⟨h,s⟩ | ⟨h,s⟩
 ·rw [← hw1] at s
  refine d9 s5 10 _ _ (l0m xs ys _ _ _ (-1)) ⟨xB xs ys _ _ s,hne,?_,trivial⟩
  unfold fX
  rw [if_neg (by simp [hn]),if_pos h]
 ·rw [← hw1] at s
  refine d9 s5 10 _ _ (l0m xs ys _ _ _ 1) ⟨xB xs ys _ _ s,hne,?_,trivial⟩
  unfold fX
  rw [if_neg (by simp [hn]),if_neg (by omega),if_pos h]
 ·rw [← hw1] at s
  refine d9 s5 10 _ _ (d1b xs ys _ _ (-1) _) ⟨xB xs ys _ _ s,hne,?_,trivial⟩
  unfold fX
  rw [if_neg (by simp [hn]),if_neg (by rw [h]; omega),if_neg (by rw [h]; omega)]
abbrev shW:AS:= .c (.s T8 .u64)
abbrev shI:AS:= .a [.v, .s T8 .u64]
abbrev shV:AS:= .c .v
def yV (xs ys:List Int):List Int:=dl W64 (1+max xs.length ys.length) (val W64 xs+val W64 ys)
def J8 (xs ys:List Int):List Int:=dl W64 xs.length (val W64 xs-val W64 ys)
def kN:List Arg→Option (List Arg×List Prop)
 | [.c (.s 32 .u64 xs), .c (.s 32 .u64 ys)] =>some ([wS (yV xs ys)],[Dg W64 xs,Dg W64 ys,xs.length < 1099511627776,ys.length < 1099511627776])
 | _=>none
def cW:List Arg→Option (List Arg×List Prop)
 | [.c (.s 32 .u64 xs), .c (.s 32 .u64 ys)] =>some ([wS (J8 xs ys)],[Dg W64 xs,Dg W64 ys,val W64 ys≤val W64 xs,xs.length < 1099511627776,ys.length≤xs.length])
 | _=>none
def S9:List Arg→Option (List Arg×List Prop)
 | [.c (.s 32 .u64 xs), .c (.s 32 .u64 ys)] =>some ([.c (.v (.int .i64 (fX xs ys)))],[Dg W64 xs,Dg W64 ys,xs.length < 1099511627776,ys.length < 1099511627776])
 | _=>none
theorem mI:∀ az rs l,kN az=some (rs,l)→d5 l→Ev.Sem Tryz.prog J0 201 az rs:=by
 intro az rs l h hl
 unfold kN at h
 split at h
 ·cases h
  obtain⟨h1,h2,h3,h4,_⟩:=hl
  have:=e1o h1 h2 h3 h4
  rw [Nat.add_comm] at this
  exact this
 ·cases h
theorem gZ:∀ az rs l,cW az=some (rs,l)→d5 l→Ev.Sem Tryz.prog J0 202 az rs:=by
 intro az rs l h hl
 unfold cW at h
 split at h
 ·cases h
  obtain⟨h1,h2,h3,h4,h5,_⟩:=hl
  exact w0u h1 h2 h3 h4 h5
 ·cases h
theorem aF:∀ az rs l,S9 az=some (rs,l)→d5 l→Ev.Sem Tryz.prog J0 197 az rs:=by
 intro az rs l h hl
 unfold S9 at h
 split at h
 ·cases h
  obtain⟨h1,h2,h3,h4,_⟩:=hl
  exact h0c h1 h2 h3 h4
 ·cases h
noncomputable def c0i:kM:=l5 141 dP (l5 201 (y3 [shW,shW] kN) (l5 202 (y3 [shW,shW] cW) (l5 197 (y3 [shW,shW] S9) C4)))
theorem cG:kY Tryz.prog J0 c0i:=b8 bK (b8 (g9 _ mI) (b8 (g9 _ gZ) (b8 (g9 _ aF) (m6 _ _))))
noncomputable def bW1:Base:=⟨Tryz.prog,J0,false,h1l,c0i,200,H8⟩
theorem dI:BaseOk bW1:=⟨progOk,vZ,cG,i7⟩
noncomputable abbrev XW1:Cx:=bW1.cx 10
abbrev iN (neg:Bool) (m:Nat):Arg:= .a [.v (.bool neg), .s T8 .u64 (ws W64 m)]
abbrev iL (neg:Bool) (xs:List Int):Arg:= .a [.v (.bool neg), .s T8 .u64 xs]
abbrev iR (r:Int):Arg:= .c (.v (.int .i64 r))
abbrev uR (r:Int):Arg:= .c (.v (.int .u64 r))
theorem c1y (n:Int) (s:Bool) (R:List Int):n8 XW1 [] 200 86 [uR n] [iL s R] [] =some [1≤1∧1≤1∧1 < 1099511627776,Value.bool false=Value.bool s,(m3 [n]).length=R.length∧(m3 [n]).length≤1∧List.take (m3 [n]).length [n] =R∧1=1∧1≤9223372036854775807] :=by kernel_rfl
theorem e1i (a b s:Bool) (xs ys R:List Int):n8 XW1 [] 200 151 [iL a xs,iL b ys] [iL s R] [true] =some [0=0∧0+(yV xs ys).length≤(yV xs ys).length∧(yV xs ys).length < 1099511627776,xs.length=xs.length,ys.length=ys.length,Dg 18446744073709551616 xs,Dg 18446744073709551616 ys,xs.length < 1099511627776,ys.length < 1099511627776,(a==b)=true,Value.bool (a && decide (0 < (m3 (List.take (yV xs ys).length (List.drop 0 (yV xs ys)))).length))=Value.bool s,(m3 (List.take (yV xs ys).length (List.drop 0 (yV xs ys)))).length=R.length∧(m3 (List.take (yV xs ys).length (List.drop 0 (yV xs ys)))).length≤(yV xs ys).length∧List.take (m3 (List.take (yV xs ys).length (List.drop 0 (yV xs ys)))).length (yV xs ys)=R] :=by kernel_rfl
theorem e1k (a b s:Bool) (xs ys R:List Int):n8 XW1 [] 200 151 [iL a xs,iL b ys] [iL s R] [false,true] =some [0=0∧0+(J8 xs ys).length≤(J8 xs ys).length∧(J8 xs ys).length < 1099511627776,xs.length=xs.length,ys.length=ys.length,Dg 18446744073709551616 xs,Dg 18446744073709551616 ys,val 18446744073709551616 ys≤val 18446744073709551616 xs,xs.length < 1099511627776,ys.length≤xs.length,decide (Int.ofNat 0≤fX xs ys)=true,xs.length=xs.length,ys.length=ys.length,Dg 18446744073709551616 xs,Dg 18446744073709551616 ys,xs.length < 1099511627776,ys.length < 1099511627776,(a==b)=false,Value.bool (a && decide (0 < (m3 (List.take (J8 xs ys).length (List.drop 0 (J8 xs ys)))).length))=Value.bool s,(m3 (List.take (J8 xs ys).length (List.drop 0 (J8 xs ys)))).length=R.length∧(m3 (List.take (J8 xs ys).length (List.drop 0 (J8 xs ys)))).length≤(J8 xs ys).length∧List.take (m3 (List.take (J8 xs ys).length (List.drop 0 (J8 xs ys)))).length (J8 xs ys)=R] :=by kernel_rfl
theorem d1f (a b s:Bool) (xs ys R:List Int):n8 XW1 [] 200 151 [iL a xs,iL b ys] [iL s R] [false,false] =some [0=0∧0+(J8 ys xs).length≤(J8 ys xs).length∧(J8 ys xs).length < 1099511627776,ys.length=ys.length,xs.length=xs.length,Dg 18446744073709551616 ys,Dg 18446744073709551616 xs,val 18446744073709551616 xs≤val 18446744073709551616 ys,ys.length < 1099511627776,xs.length≤ys.length,decide (Int.ofNat 0≤fX xs ys)=false,xs.length=xs.length,ys.length=ys.length,Dg 18446744073709551616 xs,Dg 18446744073709551616 ys,xs.length < 1099511627776,ys.length < 1099511627776,(a==b)=false,Value.bool (b && decide (0 < (m3 (List.take (J8 ys xs).length (List.drop 0 (J8 ys xs)))).length))=Value.bool s,(m3 (List.take (J8 ys xs).length (List.drop 0 (J8 ys xs)))).length=R.length∧(m3 (List.take (J8 ys xs).length (List.drop 0 (J8 ys xs)))).length≤(J8 ys xs).length∧List.take (m3 (List.take (J8 ys xs).length (List.drop 0 (J8 ys xs)))).length (J8 ys xs)=R] :=by kernel_rfl
theorem b1v (a:Bool) (xs:List Int) (r:Int):n8 XW1 [] 200 168 [iL a xs] [iR r] [true] =some [(Int.ofNat xs.length==Int.ofNat 0)=true,Value.int IntKind.i64 (Int.ofNat 0)=Value.int IntKind.i64 r] :=by kernel_rfl
theorem w0n (a:Bool) (xs:List Int) (r:Int):n8 XW1 [] 200 168 [iL a xs] [iR r] [false,true] =some [a=true,(Int.ofNat xs.length==Int.ofNat 0)=false,Value.int IntKind.i64 (Int.negSucc 0)=Value.int IntKind.i64 r] :=by kernel_rfl
theorem w0m (a:Bool) (xs:List Int) (r:Int):n8 XW1 [] 200 168 [iL a xs] [iR r] [false,false] =some [a=false,(Int.ofNat xs.length==Int.ofNat 0)=false,Value.int IntKind.i64 (Int.ofNat 1)=Value.int IntKind.i64 r] :=by kernel_rfl
theorem c1t (a:Bool) (xs:List Int) (r:Int):n8 XW1 [] 200 130 [iL a xs] [uR r] [true] =some [(Int.ofNat xs.length==Int.ofNat 0)=true,Value.int IntKind.u64 (Int.ofNat 0)=Value.int IntKind.u64 r] :=by kernel_rfl
theorem i1p (a:Bool) (xs:List Int) (r:Int):n8 XW1 [] 200 130 [iL a xs] [uR r] [false] =some [0 < xs.length,(Int.ofNat 0≤Int.ofNat 0∧Int.ofNat 0 < Int.ofNat xs.length)∧0 < xs.length,(Int.ofNat xs.length==Int.ofNat 0)=false,Value.int IntKind.u64 (xs.getD 0 (Int.ofNat 0))=Value.int IntKind.u64 r] :=by kernel_rfl
abbrev wl (m:Nat):Nat:=(ws W64 m).length
theorem a0n (m:Nat):Dg W64 (ws W64 m):=q1u A3 m
theorem t8 (m:Nat):val W64 (ws W64 m)=m:=z0k A3 m
theorem wT {n m:Nat} (h:m < W64 ^n):m3 (dl W64 n m)=ws W64 m:=by rw [G5 A3 (y0o b9 n m),b0o,Nat.mod_eq_of_lt h]
theorem wl_le {m n:Nat} :wl m≤n↔m < W64 ^n:=jC A3 m n
theorem wl_pos {m:Nat} :0 < wl m↔0 < m:=by
 have:=t0k A3 (m:=m)
 show 0 < (ws W64 m).length↔0 < m
 omega
theorem aX {a b:Nat} (h:a≤b):wl a≤wl b:=wl_le.2 (Nat.lt_of_le_of_lt h (wl_le.1 (Nat.le_refl _)))
theorem vX {m n:Nat} (h:m≤n):W64 ^m≤W64 ^n:=Nat.pow_le_pow_right b9 h
theorem g0n (m:Nat):m < W64 ^wl m:=wl_le.1 (Nat.le_refl _)
theorem u1y (a b:Nat):wl (a+b)≤max (wl a) (wl b)+1:=by
 rw [wl_le,Nat.pow_succ]
 have h1:=Nat.lt_of_lt_of_le (g0n a) (vX (Nat.le_max_left (wl a) (wl b)))
 have h2:=Nat.lt_of_lt_of_le (g0n b) (vX (Nat.le_max_right (wl a) (wl b)))
 generalize W64 ^max (wl a) (wl b)=p at*
 show a+b < p*18446744073709551616
 omega
theorem x1l (a b:Nat):a+b < W64 ^(1+max (wl a) (wl b)):=by
 have:=u1y a b
 rw [Nat.add_comm (max (wl a) (wl b))] at this
 exact wl_le.1 this
theorem b1w (a b:Nat):wl (a*b)≤wl a+wl b:=by
 rw [wl_le,Nat.pow_add]
 exact Nat.mul_lt_mul'' (g0n a) (g0n b)
theorem k0m (a b:Nat):m3 (yV (ws W64 a) (ws W64 b))=ws W64 (a+b):=by
 unfold yV
 rw [t8,t8]
 exact wT (x1l a b)
theorem kS (a b:Nat):m3 (J8 (ws W64 a) (ws W64 b))=ws W64 (a-b):=by
 unfold J8
 rw [t8,t8]
 exact wT (Nat.lt_of_le_of_lt (Nat.sub_le a b) (g0n a))
theorem g1f (a b:Nat):(yV (ws W64 a) (ws W64 b)).length=1+max (wl a) (wl b):=by unfold yV; rw [m9]
theorem j0a (a b:Nat):(J8 (ws W64 a) (ws W64 b)).length=wl a:=by unfold J8; rw [m9]
theorem v1a {a b:Nat} (h:wl a < wl b):a < b:=by
 rcases Nat.lt_or_ge a b with h' | h'
 ·exact h'
 ·have:=aX h'
  omega
theorem kI (a b:Nat):0≤fX (ws W64 a) (ws W64 b)↔b≤a:=by
 unfold fX
 rw [t8,t8]
 split
 ·rename_i h
  constructor
  ·intro h2
   have:wl b < wl a:=by show (ws W64 b).length < (ws W64 a).length; omega
   have:=v1a this
   omega
  ·intro h2
   have:wl b≤wl a:=aX h2
   have:(ws W64 b).length≤(ws W64 a).length:=this
   omega
 ·split
  ·constructor <;> intro h <;> omega
  ·split <;> constructor <;> intro h <;> omega
theorem f1i (a b:Nat):fX (ws W64 a) (ws W64 b) < 0↔a < b:=by
 have:=kI a b
 omega
theorem E3 {l:List Int} {m:Nat} (h:m3 l=ws W64 m):(m3 l).length=(ws W64 m).length∧(m3 l).length≤l.length∧l.take (m3 l).length=ws W64 m:=by
 refine⟨by rw [h],y7 l,?_⟩
 have key:∀ (l:List Int),l.take (m3 l).length=m3 l:=by
  intro l
  induction hn:l.length generalizing l with
  | zero=>have:=List.eq_nil_of_length_eq_zero hn; subst this; rfl
  | succ n ih=>
   have hne:l≠[] :=by intro e; subst e; cases hn
   obtain⟨m,x,rfl⟩:∃ m x,l=m++[x] :=⟨l.dropLast,l.getLast hne,(List.dropLast_concat_getLast hne).symm⟩
   rw [P5]
   split
   ·rw [List.take_append_of_le_length (y7 m)]
    exact ih m (by simp at hn; omega)
   ·exact List.take_length
 rw [key,h]
theorem c1n (n:Nat) (hn:n < W64):Ev.Sem Tryz.prog J0 86 [uR n] [iN false n] :=by
 have ht:m3 [(n:Int)] =ws W64 n:=by
  have hd:Dg W64 [(n:Int)] :=Dg.cons ⟨by omega,by exact_mod_cast hn⟩ (Dg.nil _)
  rw [G5 A3 hd]
  simp [val]
 refine d9 dI 10 _ _ (c1y n false (ws W64 n)) ⟨⟨by omega,by omega,by omega⟩,rfl,⟨by rw [ht],?_,?_,rfl,by omega⟩,trivial⟩
 ·have:=y7 [(n:Int)]
  simpa using this
 ·rw [ht]
  by_cases h0:n=0
  ·subst h0; rfl
  ·rw [a0h A3 (by omega),Nat.mod_eq_of_lt hn,Nat.div_eq_of_lt hn,wE]
   rfl
def l1f (a b:Bool) (A B:Nat):Nat:=if a=b then A+B else if B≤A then A-B else B-A
def k1v (a b:Bool) (A B:Nat):Bool:=if a=b then a && decide (0 < A+B) else if B≤A then a && decide (0 < A-B) else b && decide (0 < B-A)
theorem n0m (l:List Int):List.take l.length (List.drop 0 l)=l:=by simp
theorem n1o (a b:Bool) {A B:Nat} (hA:wl A < 549755813888) (hB:wl B < 549755813888):Ev.Sem Tryz.prog J0 151 [iN a A,iN b B] [iN (k1v a b A B) (l1f a b A B)] :=by
 have hA:(ws W64 A).length < 549755813888:=hA
 have hB:(ws W64 B).length < 549755813888:=hB
 by_cases hab:a=b
 ·have e1:l1f a b A B=A+B:=if_pos hab
  have e2:k1v a b A B=(a && decide (0 < A+B)):=if_pos hab
  rw [e1,e2]
  obtain⟨q1,q2,q3⟩:=E3 (k0m A B)
  have hlen:=g1f A B
  refine d9 dI 10 _ _ (e1i a b _ (ws W64 A) (ws W64 B) (ws W64 (A+B))) ⟨⟨rfl,by omega,by rw [hlen]; omega⟩,rfl,rfl,a0n A,a0n B,by omega,by omega,by simpa using hab,?_,?_,trivial⟩
  ·rw [n0m,k0m]
   have:=wl_pos (m:=A+B)
   congr 2
   simp only [decide_eq_decide]
   exact this
  ·rw [n0m]
   exact⟨q1,q2,q3⟩
 ·by_cases hle:B≤A
  ·have e1:l1f a b A B=A-B:=by unfold l1f; rw [if_neg hab,if_pos hle]
   have e2:k1v a b A B=(a && decide (0 < A-B)):=by unfold k1v; rw [if_neg hab,if_pos hle]
   rw [e1,e2]
   obtain⟨q1,q2,q3⟩:=E3 (kS A B)
   have hlen:=j0a A B
   have hl:(ws W64 B).length≤(ws W64 A).length:=aX hle
   refine d9 dI 10 _ _ (e1k a b _ (ws W64 A) (ws W64 B) (ws W64 (A-B))) ⟨⟨rfl,by omega,by rw [hlen]; omega⟩,rfl,rfl,a0n A,a0n B,by rw [t8,t8]; exact hle,by omega,hl,?_,rfl,rfl,a0n A,a0n B,by omega,by omega,by simpa using hab,?_,?_,trivial⟩
   ·simpa using (kI A B).2 hle
   ·rw [n0m,kS]
    have:=wl_pos (m:=A-B)
    congr 2
    simp only [decide_eq_decide]
    exact this
   ·rw [n0m]
    exact⟨q1,q2,q3⟩
  ·have e1:l1f a b A B=B-A:=by unfold l1f; rw [if_neg hab,if_neg hle]
   have e2:k1v a b A B=(b && decide (0 < B-A)):=by unfold k1v; rw [if_neg hab,if_neg hle]
   rw [e1,e2]
   obtain⟨q1,q2,q3⟩:=E3 (kS B A)
   have hlen:=j0a B A
   have hl:(ws W64 A).length≤(ws W64 B).length:=aX (by omega)
   refine d9 dI 10 _ _ (d1f a b _ (ws W64 A) (ws W64 B) (ws W64 (B-A))) ⟨⟨rfl,by omega,by rw [hlen]; omega⟩,rfl,rfl,a0n B,a0n A,by rw [t8,t8]; omega,by omega,hl,?_,rfl,rfl,a0n A,a0n B,by omega,by omega,by simpa using hab,?_,?_,trivial⟩
   ·have:=kI A B
    simp only [decide_eq_false_iff_not]
    exact fun h=>hle (this.1 h)
   ·rw [n0m,kS]
    have:=wl_pos (m:=B-A)
    congr 2
    simp only [decide_eq_decide]
    exact this
   ·rw [n0m]
    exact⟨q1,q2,q3⟩
def o1g (a:Bool) (A:Nat):Int:=if A=0 then 0 else if a then -1 else 1
theorem f1u (a:Bool) (A:Nat):Ev.Sem Tryz.prog J0 168 [iN a A] [iR (o1g a A)] :=by
 have h0:=t0k A3 (m:=A)
 unfold o1g
 by_cases hA:A=0
 ·rw [if_pos hA]
  exact d9 dI 10 _ _ (b1v a (ws W64 A) 0) ⟨by have:=h0.2 hA; simp [this],rfl,trivial⟩
 ·have hne:(Int.ofNat (ws W64 A).length==Int.ofNat 0)=false:=by
   have:(ws W64 A).length≠0:=fun e=>hA (h0.1 e)
   simpa using this
  rw [if_neg hA]
  cases a
  ·exact d9 dI 10 _ _ (w0m false (ws W64 A) 1) ⟨rfl,hne,rfl,trivial⟩
  ·exact d9 dI 10 _ _ (w0n true (ws W64 A) (-1)) ⟨rfl,hne,rfl,trivial⟩
theorem r0i (a:Bool) (A:Nat):Ev.Sem Tryz.prog J0 130 [iN a A] [uR ((A%W64:Nat):Int)] :=by
 have h0:=t0k A3 (m:=A)
 by_cases hA:A=0
 ·refine d9 dI 10 _ _ (c1t a (ws W64 A) _) ⟨by have:=h0.2 hA; simp [this],?_,trivial⟩
  rw [hA]
  rfl
 ·have hp:0 < (ws W64 A).length:=by omega
  refine d9 dI 10 _ _ (i1p a (ws W64 A) _) ⟨hp,⟨⟨by simp,by simpa using hp⟩,hp⟩,by have:(ws W64 A).length≠0:=(by omega); simpa using this,?_,trivial⟩
  have:=b1j A3 A 0
  have e:(ws W64 A).getD 0 (Int.ofNat 0)=(ws W64 A).getD 0 0:=rfl
  rw [e,this]
  simp [dig]
end Go.Proofs.YtdgfhijnconaoaaGreatDoor
namespace Go.Proofs
def Tryz.lays264_ren:Go.Shelf.Ren:=⟨fun | 264=>145 | n=>n,fun | 53=>32 | 46=>110 | n=>n,fun | n=>n⟩
theorem Tryz.lays264:Go.Proofs.Lays.n264 Tryz.prog Tryz.lays264_ren where
 mixed:=by kernel_rfl
 f264:=Tryz.func145.trans (congrArg some (by kernel_rfl))
 t46:=Tryz.underlying110
 a46:=Tryz.isAgg110
 z46:=Tryz.sizeOf110
 v46:=Tryz.zeroValue110
 t53:=Tryz.underlying32
 a53:=Tryz.isAgg32
 z53:=Tryz.sizeOf32
 v53:=Tryz.zeroValue32
namespace YtdgfhijnconaoaaGreatDoor
open Go Go.RowKit Ev Wd
def l1i (x y:Int):Int:=((x.toNat*y.toNat/18446744073709551616:Nat):Int)
def a1o (x y:Int):Int:=((x.toNat*y.toNat%18446744073709551616:Nat):Int)
def mA:List Value→Option (Value×List Prop)
 | [.int .u64 x, .int .u64 y] =>some (.tuple ⟨[.int .u64 (l1i x y), .int .u64 (a1o x y)]⟩,[(0≤x∧x < 18446744073709551616)∧0≤y∧y < 18446744073709551616])
 | _=>none
theorem gP (args:List Value) (v:Value) (l:List Prop) (h:mA args=some (v,l)) (hl:d5 l):Pure Tryz.prog J0 145 args v:=by
 unfold mA at h
 split at h
 case h_2=>cases h
 rename_i x y
 cases h
 obtain⟨⟨h1,h2⟩,h3,h4⟩:=hl.1
 refine⟨rfl,rfl, .inl ⟨enters_of Tryz.func145 (by kernel_rfl) (c:=_) rfl,fun w hI=> ?_⟩⟩
 have:=Any.bits_Mul64 Tryz.lays264 x.toNat y.toNat (by omega) (by omega) w
 rw [Int.toNat_of_nonneg h1,Int.toNat_of_nonneg h3] at this
 exact this.mono fun e w' ⟨q1,q2⟩=>⟨q1,q2 ▸ Below.refl _ _⟩
def h0i:List Arg→Option (List Arg×List Prop)
 | [.a [.v (.bool _), .s 32 .u64 xs]] =>some ([uR ((val W64 xs%W64:Nat):Int)],[xs=ws W64 (val W64 xs)])
 | _=>none
theorem o0w:∀ az rs l,h0i az=some (rs,l)→d5 l→Ev.Sem Tryz.prog J0 130 az rs:=by
 intro az rs l h hl
 unfold h0i at h
 split at h
 ·rename_i a xs
  cases h
  have h1:xs=ws W64 (val W64 xs):=hl.1
  have:=r0i a (val W64 xs)
  unfold iN at this
  rw [← h1] at this
  exact this
 ·cases h
noncomputable def q1p:Tab:=i6 145 mA h1l
theorem l0r:N1 Tryz.prog J0 q1p:=b6 gP vZ
noncomputable def bW2:Base:=⟨Tryz.prog,J0,false,q1p,c0i,200,H8⟩
theorem P3:BaseOk bW2:=⟨progOk,l0r,cG,i7⟩
noncomputable abbrev XW2:Cx:=bW2.cx 10
end YtdgfhijnconaoaaGreatDoor
end Go.Proofs
namespace Go.Proofs.YtdgfhijnconaoaaGreatDoor
open Go Go.RowKit Ev Wd
noncomputable def a0d:Code:=A2 Tryz.prog 89 0
noncomputable def o0a:Code:=A2 Tryz.prog 89 1
def d2q (a b:Bool) (xs ys L:List Int) (na nb:Nat):Heap:=[(18, .row T8 1 (.ints .u64 L) 19),(17, .cells [.bool false, .slice none 0 0] kW),(16, .cells [.bool b,slV 13 nb] kW),(15, .cells [.bool a,slV 11 na] kW),(11, .ints .u64 xs),(13, .ints .u64 ys)]
def TMo (a b:Bool) (xs ys L:List Int) (na nb N:Nat) (la i:Int):St:=
 ⟨only 89 [(2, .pointer (some ⟨15,0,none⟩)),(3, .pointer (some ⟨16,0,none⟩)),(4, .pointer (some ⟨17,0,none⟩)),(5,slV 18 N),(23,slV 11 na),(24, .int .i64 la),(25, .int .i64 i)],d2q a b xs ys L na nb,20,[],[],0,none,[],15⟩
def TMi (a b:Bool) (xs ys L:List Int) (na nb N:Nat) (la i w c lb j:Int):St:=
 ⟨only 89 [(2, .pointer (some ⟨15,0,none⟩)),(3, .pointer (some ⟨16,0,none⟩)),(4, .pointer (some ⟨17,0,none⟩)),(5,slV 18 N),(6, .int .i64 i),(7, .int .u64 w),(8, .int .u64 c),(23,slV 11 na),(24, .int .i64 la),(25, .int .i64 i),(31,slV 13 nb),(32, .int .i64 lb),(33, .int .i64 j)],
  d2q a b xs ys L na nb,20,[],[],0,none,[],15⟩
def y1u (w y p c:Int):Int:=Int.ofNat ((p.toNat+(Int.ofNat (((a1o w y).toNat+c.toNat+0)%18446744073709551616)).toNat+0)%18446744073709551616)
def y1m (w y p c:Int):Int:=IntKind.u64.wrap (IntKind.u64.wrap (l1i w y+Int.ofNat (((a1o w y).toNat+c.toNat+0)/18446744073709551616))+Int.ofNat ((p.toNat+(Int.ofNat (((a1o w y).toNat+c.toNat+0)%18446744073709551616)).toNat+0)/18446744073709551616))
noncomputable def d2t (X:Cx) (c:Code) (s:St) (ds:List Bool):St:=match s with
 | ⟨tm,hp,n,_,_,_,rd,mq,b⟩=>match B2 X [fun s=>some (.exit 1000000,s)] 200 c ⟨tm,hp,n,ds,[],0,rd,mq,b⟩ with
  | some (_,s1)=>s1.core
  | none=>s
abbrev iL' (neg:Bool) (xs:List Int):Arg:= .a [.v (.bool neg), .s T8 .u64 xs]
theorem x0l (a b:Bool) (xs ys L:List Int) (na nb N:Nat) (la i w c lb j:Int) (hl:d5 [(IntKind.i64.wrap (i+j)).toNat < L.length,(Int.ofNat 0≤IntKind.i64.wrap (i+j)∧IntKind.i64.wrap (i+j) < Int.ofNat N)∧0 < L.length,0≤1,(IntKind.i64.wrap (i+j)).toNat < L.length,(Int.ofNat 0≤IntKind.i64.wrap (i+j)∧IntKind.i64.wrap (i+j) < Int.ofNat N)∧0 < L.length,0≤1,(Int.ofNat 0≤w∧w < Int.ofNat 18446744073709551616)∧Int.ofNat 0≤ys.getD j.toNat (Int.ofNat 0)∧ys.getD j.toNat (Int.ofNat 0) < Int.ofNat 18446744073709551616,j.toNat < ys.length,(Int.ofNat 0≤j∧j < Int.ofNat nb)∧0 < ys.length,decide (j < lb)=true]):o9 XW2 o0a (TMi a b xs ys L na nb N la i w c lb j) .normal (TMi a b xs ys (bM L (IntKind.i64.wrap (i+j)).toNat (y1u w (ys.getD j.toNat 0) (L.getD (IntKind.i64.wrap (i+j)).toNat 0) c)) na nb N la i w (y1m w (ys.getD j.toNat 0) (L.getD (IntKind.i64.wrap (i+j)).toNat 0) c) lb (IntKind.i64.wrap (j+1))):=
 b7 (Base.cx_ok P3 10).1 progOk.mixed [] 200 [true] [] (by kernel_rfl) hl (by kernel_rfl) (by kernel_rfl)
theorem g1o (a b:Bool) (xs ys L:List Int) (na nb N:Nat) (la i w c lb j:Int) (hl:d5 [decide (j < lb)=false]):o9 XW2 o0a (TMi a b xs ys L na nb N la i w c lb j) (.exit 2) (TMi a b xs ys L na nb N la i w c lb j):=
 b7 (Base.cx_ok P3 10).1 progOk.mixed [] 200 [false] [] (by kernel_rfl) hl (by kernel_rfl) (by kernel_rfl)
theorem t0m (a b:Bool) (xs ys L M:List Int) (na nb N:Nat) (la i w c lb j:Int) (hl:d5 [(IntKind.i64.wrap (i+Int.ofNat nb)).toNat < M.length,(Int.ofNat 0≤IntKind.i64.wrap (i+Int.ofNat nb)∧IntKind.i64.wrap (i+Int.ofNat nb) < Int.ofNat N)∧0 < M.length,a7 XW2 o0a (d2t XW2 a0d (TMo a b xs ys L na nb N la i) [true]) (.exit 2) (TMi a b xs ys M na nb N la i w c lb j),i.toNat < xs.length,(Int.ofNat 0≤i∧i < Int.ofNat na)∧0 < xs.length,decide (i < la)=true]):o9 XW2 a0d (TMo a b xs ys L na nb N la i) .normal (TMo a b xs ys (bM M (IntKind.i64.wrap (i+(nb:Int))).toNat c) na nb N la (IntKind.i64.wrap (i+1))):=
 b7 (Base.cx_ok P3 10).1 progOk.mixed [J5 (.exit 2) (fun _=>TMi a b xs ys M na nb N la i w c lb j)] 200 [true] [] (by kernel_rfl) hl (by kernel_rfl) (by kernel_rfl)
theorem e1n (a b:Bool) (xs ys L:List Int) (na nb N:Nat) (la i:Int) (hl:d5 [decide (i < la)=false]):o9 XW2 a0d (TMo a b xs ys L na nb N la i) (.exit 0) (TMo a b xs ys L na nb N la i):=
 b7 (Base.cx_ok P3 10).1 progOk.mixed [] 200 [false] [] (by kernel_rfl) hl (by kernel_rfl) (by kernel_rfl)
theorem o1n (a b s:Bool) (xs ys L R:List Int) (na nb N:Nat) (la i:Int):n8 XW2 [J5 (.exit 0) (fun _=>TMo a b xs ys L na nb N la i)] 200 89 [iL' a xs,iL' b ys] [iL' s R] [] =some [0=0∧0+N≤L.length∧L.length < 1099511627776,a7 XW2 a0d (m5 XW2 200 89 [iL' a xs,iL' b ys] []) (.exit 0) (TMo a b xs ys L na nb N la i),Int.ofNat 0≤IntKind.i64.wrap (Int.ofNat (xs.length+ys.length))∧IntKind.i64.wrap (Int.ofNat (xs.length+ys.length))=IntKind.i64.wrap (Int.ofNat (xs.length+ys.length))∧Int.ofNat 8*IntKind.i64.wrap (Int.ofNat (xs.length+ys.length))≤Int.ofNat 281474976710656∧IntKind.i64.wrap (Int.ofNat (xs.length+ys.length))≤Int.ofNat 9223372036854775807,Value.bool (!a==b && decide (0 < (m3 (List.take N L)).length))=Value.bool s,(m3 (List.take N L)).length=R.length∧(m3 (List.take N L)).length≤L.length∧List.take (m3 (List.take N L)).length L=R] :=by kernel_rfl
theorem i1b {w y p c:Nat} (hw:w < W64) (hy:y < W64) (hp:p < W64) (hc:c < W64):∃ D C:Nat,y1u w y p c=D∧y1m w y p c=C∧D < W64∧C < W64∧D+W64*C=p+w*y+c:=by
 have hm:w*y≤18446744073709551615*18446744073709551615:=Nat.mul_le_mul (by have:w < 18446744073709551616:=hw; omega) (by have:y < 18446744073709551616:=hy; omega)
 have hp:p < 18446744073709551616:=hp
 have hc:c < 18446744073709551616:=hc
 unfold y1u y1m a1o l1i
 simp only [Int.toNat_natCast,Int.ofNat_eq_natCast]
 generalize w*y=m at*
 simp only [IntKind.wrap_u64]
 refine⟨(p+m+c)%18446744073709551616,(p+m+c)/18446744073709551616,?_,?_,Nat.mod_lt _ b9,?_,?_⟩
 ·congr 1
  omega
 ·omega
 ·show _ < 18446744073709551616
  omega
 ·show _+18446744073709551616*_=_
  omega
structure IMu where
 j:Nat
 c:Int
 L:List Int
noncomputable def g1q (w:Int) (ys:List Int) (i:Nat) (p:IMu):IMu:=
 ⟨p.j+1,y1m w (ys.getD p.j 0) (p.L.getD (i+p.j) 0) p.c,bM p.L (i+p.j) (y1u w (ys.getD p.j 0) (p.L.getD (i+p.j) 0) p.c)⟩
noncomputable def E6 (w:Int) (ys:List Int) (i:Nat) (L:List Int) (j:Nat):IMu:=itr (g1q w ys i) j ⟨0,0,L⟩
noncomputable def E0 (xs ys:List Int):Nat→List Int
 | 0=>List.replicate (xs.length+ys.length) 0
 | i+1=>bM (E6 (xs.getD i 0) ys i (E0 xs ys i) ys.length).L (i+ys.length) (E6 (xs.getD i 0) ys i (E0 xs ys i) ys.length).c
def m1r (n i ny w B P:Nat) (p:IMu):Prop:=
 p.j≤ny∧p.L.length=n∧Dg W64 p.L∧(0≤p.c∧p.c < (W64:Int))∧(∀ t,i+ny≤t→p.L.getD t 0=0)∧val W64 p.L+p.c.toNat*W64 ^(i+p.j)=P+w*(B%W64 ^p.j)*W64 ^i
theorem m0x {n i w P:Nat} {ys:List Int} (hw:w < W64) (hy:Dg W64 ys) (hn:i+ys.length≤n) {p:IMu} (h:m1r n i ys.length w (val W64 ys) P p) (hj:p.j < ys.length):m1r n i ys.length w (val W64 ys) P (g1q w ys i p):=by
 obtain⟨h1,h2,h3,h4,h5,h6⟩:=h
 have gy:=C3 b9 hy p.j
 have gp:=h3.get b9 (i+p.j)
 have ep:p.L.getD (i+p.j) 0=((p.L.getD (i+p.j) 0).toNat:Int):=by omega
 have ec:p.c=(p.c.toNat:Int):=by omega
 obtain⟨D,C,e1,e2,e3,e4,e5⟩:=i1b hw (U6 b9 (val W64 ys) p.j) (show (p.L.getD (i+p.j) 0).toNat < W64 by have:=gp.2; omega) (show p.c.toNat < W64 by have:=h4.2; omega)
 unfold g1q
 rw [y5,gy,ec,ep,e1,e2]
 refine⟨hj,by simp [h2],h3.set ⟨by omega,by exact_mod_cast e3⟩ _,⟨by simp only; omega,by simp only; exact_mod_cast e4⟩,fun t ht=> ?_,?_⟩
 ·rw [getD_set_ne (by omega)]
  exact h5 t ht
 ·have hv:=V0 (b:=W64) (D:Int) (show i+p.j < p.L.length by omega)
  simp only [Int.toNat_natCast] at hv
  simp only [Int.toNat_natCast]
  rw [bC,← Nat.add_assoc,Nat.pow_succ]
  have q:(D+W64*C)*W64 ^(i+p.j)=((p.L.getD (i+p.j) 0).toNat+w*dig W64 (val W64 ys) p.j+p.c.toNat)*W64 ^(i+p.j):=by rw [e5]
  rw [Nat.add_mul,Nat.add_mul,Nat.add_mul] at q
  have q2:C*(W64 ^(i+p.j)*W64)=W64*C*W64 ^(i+p.j):=by rw [Nat.mul_comm (W64 ^(i+p.j)),← Nat.mul_assoc,Nat.mul_comm C]
  have q3:w*(val W64 ys%W64 ^p.j+dig W64 (val W64 ys) p.j*W64 ^p.j)*W64 ^i=w*(val W64 ys%W64 ^p.j)*W64 ^i+w*dig W64 (val W64 ys) p.j*W64 ^(i+p.j):=by
   rw [Nat.mul_add,Nat.add_mul,Nat.pow_add]
   congr 1
   rw [← Nat.mul_assoc,Nat.mul_assoc,Nat.mul_comm (W64 ^p.j)]
  rw [q3,q2]
  omega
theorem dH {n i w P:Nat} {ys L:List Int} (hw:w < W64) (hy:Dg W64 ys) (hn:i+ys.length≤n) (hL:L.length=n) (hD:Dg W64 L) (hz:∀ t,i+ys.length≤t→L.getD t 0=0) (hP:val W64 L=P):
  ∀ k,k≤ys.length→m1r n i ys.length w (val W64 ys) P (E6 w ys i L k)∧(E6 w ys i L k).j=k
 | 0,_=>⟨⟨Nat.zero_le _,hL,hD,⟨Int.le_refl _,(show (0:Int) < ((18446744073709551616:Nat):Int) by decide)⟩,hz,by simp [E6,itr,hP,Nat.mod_one]⟩,rfl⟩
 | k+1,hk=>by
  obtain⟨h1,h2⟩:=dH hw hy hn hL hD hz hP k (by omega)
  have h3:(E6 w ys i L k).j < ys.length:=by rw [h2]; omega
  exact⟨m0x hw hy hn h1 h3,by show (E6 w ys i L k).j+1=k+1; rw [h2]⟩
def z1v (xs ys:List Int) (i:Nat) (L:List Int):Prop:=
 L.length=xs.length+ys.length∧Dg W64 L∧(∀ t,i+ys.length≤t→L.getD t 0=0)∧val W64 L=val W64 xs%W64 ^i*val W64 ys
theorem mU {xs ys:List Int} (hx:Dg W64 xs) (hy:Dg W64 ys):∀ i,i≤xs.length→z1v xs ys i (E0 xs ys i)
 | 0,_=>⟨by simp [E0],Dg.zeros _ b9 _,fun t _=>P7 _ _,by simp [E0,Q2,Nat.mod_one]⟩
 | i+1,hi=>by
  obtain⟨h1,h2,h3,h4⟩:=mU hx hy i (by omega)
  have gx:=C3 b9 hx i
  have:=(dH (U6 b9 (val W64 xs) i) hy (by omega) h1 h2 h3 h4 ys.length (Nat.le_refl _))
  unfold E0
  rw [gx,y5]
  generalize E6 (dig W64 (val W64 xs) i) ys i (E0 xs ys i) ys.length=p at*
  obtain⟨⟨q1,q2,q3,q4,q5,q6⟩,q7⟩:=this
  rw [q7] at q6
  refine⟨by simp [q2],q3.set q4 _,fun t ht=> ?_,?_⟩
  ·rw [getD_set_ne (by omega)]
   exact q5 t (by omega)
  ·have hv:=V0 (b:=W64) p.c (show i+ys.length < p.L.length by omega)
   rw [q5 (i+ys.length) (Nat.le_refl _)] at hv
   simp only [Int.toNat_zero,Nat.zero_mul,Nat.add_zero] at hv
   rw [hv,q6,Nat.mod_eq_of_lt (I3 b9 hy),bC,Nat.add_mul]
   congr 1
   rw [Nat.mul_right_comm]
theorem y0n (a b:Bool) {xs ys L:List Int} (N:Nat) (hx:Dg W64 xs) (hy:Dg W64 ys) {i:Nat} (hi:i < xs.length) (hb:xs.length+ys.length < 1099511627776) (hL:L.length=xs.length+ys.length) (hN:N=xs.length+ys.length) (hD:Dg W64 L) (hz:∀ t,i+ys.length≤t→L.getD t 0=0):
  a7 XW2 o0a (TMi a b xs ys L xs.length ys.length N xs.length i (xs.getD i 0) 0 ys.length 0) (.exit 2)
   (TMi a b xs ys (E6 (xs.getD i 0) ys i L ys.length).L xs.length ys.length N xs.length i (xs.getD i 0) (E6 (xs.getD i 0) ys i L ys.length).c ys.length ys.length):=by
 subst hN
 refine v8 (fun k=>TMi a b xs ys (E6 (xs.getD i 0) ys i L k).L xs.length ys.length (xs.length+ys.length) xs.length i (xs.getD i 0) (E6 (xs.getD i 0) ys i L k).c ys.length k) ys.length (by intro e; cases e) (fun k hk=> ?_)
  (g1o a b xs ys _ xs.length ys.length (xs.length+ys.length) xs.length i (xs.getD i 0) _ ys.length ys.length ⟨by simp,trivial⟩)
 have gx:=C3 b9 hx i
 have:=dH (U6 b9 (val W64 xs) i) hy (by omega) hL hD hz rfl k (by omega)
 have e:E6 (xs.getD i 0) ys i L (k+1)=g1q (xs.getD i 0) ys i (E6 (xs.getD i 0) ys i L k):=rfl
 simp only [e]
 rw [← gx] at this
 generalize E6 (xs.getD i 0) ys i L k=p at*
 obtain⟨⟨q1,q2,q3,q4,q5,q6⟩,q7⟩:=this
 subst q7
 have hw:IntKind.i64.wrap ((i:Int)+(p.j:Int))=((i+p.j:Nat):Int):=by
  have:=m4 (n:=i+p.j) (by omega)
  simpa using this
 have hw2:=C0 (n:=p.j) (by omega)
 have gw:=hx.get b9 i
 have gy:=hy.get b9 p.j
 have hW:((W64:Nat):Int)=18446744073709551616:=rfl
 rw [hW] at gw gy
 have:=x0l a b xs ys p.L xs.length ys.length (xs.length+ys.length) xs.length i (xs.getD i 0) p.c ys.length p.j
 rw [hw,hw2] at this
 simp only [Int.toNat_natCast] at this
 have bnd:((Int.ofNat 0≤((i+p.j:Nat):Int)∧((i+p.j:Nat):Int) < Int.ofNat (xs.length+ys.length))∧0 < p.L.length):=⟨⟨by simp only [Int.ofNat_eq_natCast]; omega,by simp only [Int.ofNat_eq_natCast]; omega⟩,by omega⟩
 exact this ⟨by omega,bnd,by omega,by omega,bnd,by omega,⟨gw,gy⟩,hk,⟨⟨by simp,by simpa using hk⟩,by omega⟩,by simpa using hk,trivial⟩
theorem e1w (a b:Bool) (xs ys L:List Int) (na nb N:Nat) (la i:Int) (x:AX) (s':St) (h:a7 XW2 o0a (TMi a b xs ys L na nb N la i (xs.getD i.toNat 0) 0 nb 0) x s'):a7 XW2 o0a (d2t XW2 a0d (TMo a b xs ys L na nb N la i) [true]) x s':=
 f9 h [] (by kernel_rfl) (by kernel_rfl) (by kernel_rfl)
theorem t0b (a b:Bool) (xs ys:List Int) (x:AX) (s':St) (h:a7 XW2 a0d (TMo a b xs ys (List.replicate (IntKind.i64.wrap ((xs.length:Int)+ys.length)).toNat 0) xs.length ys.length (IntKind.i64.wrap ((xs.length:Int)+ys.length)).toNat xs.length 0) x s'):
  a7 XW2 a0d (m5 XW2 200 89 [iL' a xs,iL' b ys] []) x s':=
 f9 h [] (by kernel_rfl) (by kernel_rfl) (by kernel_rfl)
theorem l1o (a b:Bool) {A B:Nat} (hA:wl A < 274877906944) (hB:wl B < 274877906944):Ev.Sem Tryz.prog J0 89 [iN a A,iN b B] [iN ((a !=b) && decide (0 < A*B)) (A*B)] :=by
 have hA:(ws W64 A).length < 274877906944:=hA
 have hB:(ws W64 B).length < 274877906944:=hB
 have hx:=a0n A
 have hy:=a0n B
 have vA:=t8 A
 have vB:=t8 B
 have hR:m3 (E0 (ws W64 A) (ws W64 B) (ws W64 A).length)=ws W64 (A*B)∧(E0 (ws W64 A) (ws W64 B) (ws W64 A).length).length=(ws W64 A).length+(ws W64 B).length:=by
  obtain⟨h1,h2,h3,h4⟩:=mU hx hy (ws W64 A).length (Nat.le_refl _)
  refine⟨?_,h1⟩
  rw [G5 A3 h2,h4,Nat.mod_eq_of_lt (I3 b9 hx),vA,vB]
 have hL:a7 XW2 a0d (TMo a b (ws W64 A) (ws W64 B) (List.replicate ((ws W64 A).length+(ws W64 B).length) 0) (ws W64 A).length (ws W64 B).length ((ws W64 A).length+(ws W64 B).length) (ws W64 A).length 0) (.exit 0)
   (TMo a b (ws W64 A) (ws W64 B) (E0 (ws W64 A) (ws W64 B) (ws W64 A).length) (ws W64 A).length (ws W64 B).length ((ws W64 A).length+(ws W64 B).length) (ws W64 A).length (ws W64 A).length):=by
  generalize ws W64 A=xs at*
  generalize ws W64 B=ys at*
  refine v8 (fun k=>TMo a b xs ys (E0 xs ys k) xs.length ys.length (xs.length+ys.length) xs.length k) xs.length (by intro e; cases e) (fun k hk=> ?_) (e1n a b xs ys _ xs.length ys.length (xs.length+ys.length) xs.length xs.length ⟨by simp,trivial⟩)
  obtain⟨h1,h2,h3,h4⟩:=mU hx hy k (by omega)
  have hi:=y0n a b (xs.length+ys.length) hx hy hk (by omega) h1 rfl h2 h3
  have hi2:=e1w a b xs ys (E0 xs ys k) xs.length ys.length (xs.length+ys.length) xs.length k _ _ (by rw [Int.toNat_natCast]; exact hi)
  have hw:IntKind.i64.wrap ((k:Int)+Int.ofNat ys.length)=((k+ys.length:Nat):Int):=by
   have:=m4 (n:=k+ys.length) (by omega)
   simpa using this
  have hw':IntKind.i64.wrap ((k:Int)+(ys.length:Int))=((k+ys.length:Nat):Int):=hw
  have hw2:=C0 (n:=k) (by omega)
  have hlen:(E6 (xs.getD k 0) ys k (E0 xs ys k) ys.length).L.length=xs.length+ys.length:=by
   have gx:=C3 b9 hx k
   have:=(dH (U6 b9 (val W64 xs) k) hy (by omega) h1 h2 h3 rfl ys.length (Nat.le_refl _)).1.2.1
   rw [gx]
   exact this
  have:=t0m a b xs ys (E0 xs ys k) (E6 (xs.getD k 0) ys k (E0 xs ys k) ys.length).L xs.length ys.length (xs.length+ys.length) xs.length k (xs.getD k 0) (E6 (xs.getD k 0) ys k (E0 xs ys k) ys.length).c ys.length ys.length
  rw [hw,hw',hw2] at this
  simp only [Int.toNat_natCast] at this
  exact this ⟨by omega,⟨⟨by simp only [Int.ofNat_eq_natCast]; omega,by simp only [Int.ofNat_eq_natCast]; omega⟩,by omega⟩,hi2,hk,⟨⟨by simp,by simpa using hk⟩,by omega⟩,by simpa using hk,trivial⟩
 have hw:IntKind.i64.wrap (((ws W64 A).length:Int)+(ws W64 B).length)=(((ws W64 A).length+(ws W64 B).length:Nat):Int):=by
  have:=m4 (n:=(ws W64 A).length+(ws W64 B).length) (by omega)
  simpa using this
 have hw':IntKind.i64.wrap (Int.ofNat ((ws W64 A).length+(ws W64 B).length))=(((ws W64 A).length+(ws W64 B).length:Nat):Int):=m4 (by omega)
 have ht:List.take ((ws W64 A).length+(ws W64 B).length) (E0 (ws W64 A) (ws W64 B) (ws W64 A).length)=E0 (ws W64 A) (ws W64 B) (ws W64 A).length:=List.take_of_length_le (by rw [hR.2]; exact Nat.le_refl _)
 obtain⟨q1,q2,q3⟩:=E3 hR.1
 refine d9 P3 10 _ _ (o1n a b _ (ws W64 A) (ws W64 B) (E0 (ws W64 A) (ws W64 B) (ws W64 A).length) (ws W64 (A*B)) _ _ ((ws W64 A).length+(ws W64 B).length) _ _) ⟨⟨rfl,by rw [hR.2]; omega,by rw [hR.2]; omega⟩,t0b a b _ _ _ _ (by rw [hw]; exact hL),⟨by rw [hw']; simp only [Int.ofNat_eq_natCast]; omega,rfl,by rw [hw']; simp only [Int.ofNat_eq_natCast]; omega,by rw [hw']; simp only [Int.ofNat_eq_natCast]; omega⟩,?_,?_,trivial⟩
 ·rw [ht,hR.1]
  have:=wl_pos (m:=A*B)
  have e1:(!a==b)=(a !=b):=by cases a <;> cases b <;> rfl
  rw [e1]
  congr 2
  simp only [decide_eq_decide]
  exact this
 ·rw [ht]
  exact⟨q1,q2,q3⟩
end Go.Proofs.YtdgfhijnconaoaaGreatDoor
namespace Go.Proofs.YtdgfhijnconaoaaGreatDoor.Wd
def bl (n:Nat):Nat:=match n with
 | 0=>0
 | n+1=>(n+1).log2+1
theorem bl_le {n k:Nat} :bl n≤k↔n < 2 ^k:=by
 cases n with
 | zero=>simp [bl,Nat.two_pow_pos]
 | succ n=>
  have:=Nat.log2_lt (n:=n+1) (k:=k) (by omega)
  simp only [bl]
  omega
theorem uO (n:Nat):n < 2 ^bl n:=bl_le.1 (Nat.le_refl _)
theorem bl_ge {n k:Nat} :k < bl n↔2 ^k≤n:=by
 have:=bl_le (n:=n) (k:=k)
 omega
theorem o1s:bl 0=0:=rfl
theorem bl_pos {n:Nat} :0 < bl n↔0 < n:=by
 rw [bl_ge]
 simp
 omega
theorem j1w {n:Nat} (h:0 < n):2 ^(bl n-1)≤n:=bl_ge.1 (by have:=bl_pos.2 h; omega)
theorem p1u {a b:Nat} (h:a≤b):bl a≤bl b:=bl_le.2 (Nat.lt_of_le_of_lt h (uO b))
theorem kO {n k:Nat} (h:2 ^k≤n):bl n=k+bl (n/2 ^k):=by
 have h1:k < bl n:=bl_ge.2 h
 apply Nat.le_antisymm
 ·rw [bl_le,Nat.pow_add,Nat.mul_comm,← Nat.div_lt_iff_lt_mul (Nat.two_pow_pos k)]
  exact uO _
 ·have:bl (n/2 ^k)≤bl n-k:=by
   rw [bl_le,Nat.div_lt_iff_lt_mul (Nat.two_pow_pos k),← Nat.pow_add]
   rw [Nat.sub_add_cancel (Nat.le_of_lt h1)]
   exact uO n
  omega
end Go.Proofs.YtdgfhijnconaoaaGreatDoor.Wd
namespace Go.Proofs.YtdgfhijnconaoaaGreatDoor
open Go Go.RowKit Ev Wd
def l8:ByteArray:=⟨⟨(List.range 256).map fun i=>UInt8.ofNat (bl i)⟩⟩
theorem c2q (i:Nat) (h:i < 256):gI l8 i=bl i:=by
 have:∀ i:Fin 256,gI l8 i.val=bl i.val:=by decide+kernel
 exact this ⟨i,h⟩
def y0i (k:Nat) (y:Int):Value:= .int .i64 (IntKind.i64.wrap ((k:Int)+IntKind.i64.wrap ((gI l8 (IntKind.u8.wrap y).toNat:Nat):Int)))
abbrev f32 (x:Int):Int:=x.fdiv 4294967296
abbrev f16 (x:Int):Int:=x.fdiv 65536
abbrev f8 (x:Int):Int:=x.fdiv 256
def c1j (y:Int):Prop:=0≤IntKind.u8.wrap y∧(IntKind.u8.wrap y).toNat < 256
section
variable (x:Int)
theorem p1x:a6 XW2 [] 200 164 [.int .u64 x] [true,true,true] =some (y0i 56 (f8 (f16 (f32 x))),[c1j (f8 (f16 (f32 x))),decide (f16 (f32 x)≥256)=true,decide (f32 x≥65536)=true,decide (x≥4294967296)=true]):=by kernel_rfl
theorem l1l:a6 XW2 [] 200 164 [.int .u64 x] [true,true,false] =some (y0i 48 (f16 (f32 x)),[c1j (f16 (f32 x)),decide (f16 (f32 x)≥256)=false,decide (f32 x≥65536)=true,decide (x≥4294967296)=true]):=by kernel_rfl
theorem l1s:a6 XW2 [] 200 164 [.int .u64 x] [true,false,true] =some (y0i 40 (f8 (f32 x)),[c1j (f8 (f32 x)),decide (f32 x≥256)=true,decide (f32 x≥65536)=false,decide (x≥4294967296)=true]):=by kernel_rfl
theorem p1d:a6 XW2 [] 200 164 [.int .u64 x] [true,false,false] =some (y0i 32 (f32 x),[c1j (f32 x),decide (f32 x≥256)=false,decide (f32 x≥65536)=false,decide (x≥4294967296)=true]):=by kernel_rfl
theorem r1i:a6 XW2 [] 200 164 [.int .u64 x] [false,true,true] =some (y0i 24 (f8 (f16 x)),[c1j (f8 (f16 x)),decide (f16 x≥256)=true,decide (x≥65536)=true,decide (x≥4294967296)=false]):=by kernel_rfl
theorem m1d:a6 XW2 [] 200 164 [.int .u64 x] [false,true,false] =some (y0i 16 (f16 x),[c1j (f16 x),decide (f16 x≥256)=false,decide (x≥65536)=true,decide (x≥4294967296)=false]):=by kernel_rfl
theorem o1o:a6 XW2 [] 200 164 [.int .u64 x] [false,false,true] =some (y0i 8 (f8 x),[c1j (f8 x),decide (x≥256)=true,decide (x≥65536)=false,decide (x≥4294967296)=false]):=by kernel_rfl
theorem m1z:a6 XW2 [] 200 164 [.int .u64 x] [false,false,false] =some (y0i 0 x,[c1j x,decide (x≥256)=false,decide (x≥65536)=false,decide (x≥4294967296)=false]):=by kernel_rfl
end
theorem V4 {k n m:Nat} (hn:n < 256) (h:k+bl n=m) (hm:m≤64):y0i k n= .int .i64 m:=by
 unfold y0i
 have e:IntKind.u8.wrap (n:Int)=n:=by
  have:=IntKind.wrap_u8 (n:Int)
  omega
 rw [e,Int.toNat_natCast,c2q n hn,m4 (by omega)]
 have:=m4 (n:=k+bl n) (by omega)
 congr 1
 rw [← h]
 simpa using this
theorem W1 {n:Nat} (hn:n < 256):c1j n:=by
 unfold c1j
 have e:IntKind.u8.wrap (n:Int)=n:=by
  have:=IntKind.wrap_u8 (n:Int)
  omega
 rw [e]
 omega
theorem o0v (n:Nat) (h:n < W64):Pure Tryz.prog J0 164 [.int .u64 n] (.int .i64 (bl n)):=by
 have h:n < 18446744073709551616:=h
 have e32:f32 n=((n/4294967296:Nat):Int):=by unfold f32; rw [Int.fdiv_eq_ediv_of_nonneg _ (by omega)]; omega
 have e16:∀ m:Nat,f16 m=((m/65536:Nat):Int):=fun m=>by unfold f16; rw [Int.fdiv_eq_ediv_of_nonneg _ (by omega)]; omega
 have e8:∀ m:Nat,f8 m=((m/256:Nat):Int):=fun m=>by unfold f8; rw [Int.fdiv_eq_ediv_of_nonneg _ (by omega)]; omega
 have s32:4294967296≤n→bl n=32+bl (n/4294967296):=fun h=>kO (k:=32) h
 have s16:∀ m,65536≤m→bl m=16+bl (m/65536):=fun m h=>kO (k:=16) h
 have s8:∀ m,256≤m→bl m=8+bl (m/256):=fun m h=>kO (k:=8) h
 have hb:bl n≤64:=bl_le.2 h
 by_cases h1:4294967296≤n
 ·have q1:=s32 h1
  by_cases h2:65536≤n/4294967296
  ·have q2:=s16 _ h2
   by_cases h3:256≤n/4294967296/65536
   ·have q3:=s8 _ h3
    have:=p1x n
    rw [e32,e16,e8] at this
    rw [V4 (k:=56) (m:=bl n) (by omega) (by omega) hb] at this
    exact d6 P3 10 [] _ this ⟨W1 (by omega),by simp; omega,by simp; omega,by simp; omega,trivial⟩
   ·have:=l1l n
    rw [e32,e16] at this
    rw [V4 (k:=48) (m:=bl n) (by omega) (by omega) hb] at this
    exact d6 P3 10 [] _ this ⟨W1 (by omega),by simp; omega,by simp; omega,by simp; omega,trivial⟩
  ·by_cases h3:256≤n/4294967296
   ·have q3:=s8 _ h3
    have:=l1s n
    rw [e32,e8] at this
    rw [V4 (k:=40) (m:=bl n) (by omega) (by omega) hb] at this
    exact d6 P3 10 [] _ this ⟨W1 (by omega),by simp; omega,by simp; omega,by simp; omega,trivial⟩
   ·have:=p1d n
    rw [e32] at this
    rw [V4 (k:=32) (m:=bl n) (by omega) (by omega) hb] at this
    exact d6 P3 10 [] _ this ⟨W1 (by omega),by simp; omega,by simp; omega,by simp; omega,trivial⟩
 ·by_cases h2:65536≤n
  ·have q2:=s16 _ h2
   by_cases h3:256≤n/65536
   ·have q3:=s8 _ h3
    have:=r1i n
    rw [e16,e8] at this
    rw [V4 (k:=24) (m:=bl n) (by omega) (by omega) hb] at this
    exact d6 P3 10 [] _ this ⟨W1 (by omega),by simp; omega,by simp; omega,by simp; omega,trivial⟩
   ·have:=m1d n
    rw [e16] at this
    rw [V4 (k:=16) (m:=bl n) (by omega) (by omega) hb] at this
    exact d6 P3 10 [] _ this ⟨W1 (by omega),by simp; omega,by simp; omega,by simp; omega,trivial⟩
  ·by_cases h3:256≤n
   ·have q3:=s8 _ h3
    have:=o1o n
    rw [e8] at this
    rw [V4 (k:=8) (m:=bl n) (by omega) (by omega) hb] at this
    exact d6 P3 10 [] _ this ⟨W1 (by omega),by simp; omega,by simp; omega,by simp; omega,trivial⟩
   ·have:=m1z n
    rw [show y0i 0 n= .int .i64 (bl n) from V4 (k:=0) (m:=bl n) (by omega) (by omega) hb] at this
    exact d6 P3 10 [] _ this ⟨W1 (by omega),by simp; omega,by simp; omega,by simp; omega,trivial⟩
def C1 (x:Int):Int:=((bl x.toNat:Nat):Int)
def lE:List Value→Option (Value×List Prop)
 | [.int .u64 x] =>some (.int .i64 (C1 x),[0≤x∧x < 18446744073709551616])
 | _=>none
theorem yZ (args:List Value) (v:Value) (l:List Prop) (h:lE args=some (v,l)) (hl:d5 l):Pure Tryz.prog J0 164 args v:=by
 unfold lE at h
 split at h
 case h_2=>cases h
 rename_i x
 cases h
 obtain⟨h1,h2⟩:=hl.1
 have:=o0v x.toNat (by show x.toNat < 18446744073709551616; omega)
 rw [Int.toNat_of_nonneg h1] at this
 exact this
noncomputable def r1f:Tab:=i6 164 lE q1p
theorem k0k:N1 Tryz.prog J0 r1f:=b6 yZ l0r
noncomputable def bW3:Base:=⟨Tryz.prog,J0,false,r1f,c0i,200,H8⟩
theorem iH:BaseOk bW3:=⟨progOk,k0k,cG,i7⟩
noncomputable abbrev XW3:Cx:=bW3.cx 10
noncomputable def g0e:Code:=A2 Tryz.prog 196 0
noncomputable def e0g:Code:=A2 Tryz.prog 196 1
def TD1 (y s yn1 yn0 un32 un10 un1 un0 q r:Int):St:=⟨only 135 [(2, .int .u64 y),(8, .int .u64 s),(9, .int .u64 yn1),(10, .int .u64 yn0),(11, .int .u64 un32),(12, .int .u64 un10),(13, .int .u64 un1),(14, .int .u64 un0),(15, .int .u64 q),(16, .int .u64 r)],[],11,[],[],0,none,[],11⟩
def TE1 (y s yn1 yn0 un32 un10 un1 un0 q:Int):St:=⟨only 135 [(2, .int .u64 y),(8, .int .u64 s),(9, .int .u64 yn1),(10, .int .u64 yn0),(11, .int .u64 un32),(12, .int .u64 un10),(13, .int .u64 un1),(14, .int .u64 un0),(15, .int .u64 q)],[],11,[],[],0,none,[],11⟩
def TD2 (y s yn1 yn0 un0 q1 un21 q r:Int):St:=⟨only 135 [(2, .int .u64 y),(8, .int .u64 s),(9, .int .u64 yn1),(10, .int .u64 yn0),(14, .int .u64 un0),(15, .int .u64 q1),(16, .int .u64 r),(17, .int .u64 un21),(18, .int .u64 q)],[],11,[],[],0,none,[],11⟩
def TE2 (y s yn1 yn0 un0 q1 un21 q:Int):St:=⟨only 135 [(2, .int .u64 y),(8, .int .u64 s),(9, .int .u64 yn1),(10, .int .u64 yn0),(14, .int .u64 un0),(15, .int .u64 q1),(17, .int .u64 un21),(18, .int .u64 q)],[],11,[],[],0,none,[],11⟩
noncomputable def S1 (hi lo y:Int):St:=o8 XW3 200 196 [.int .u64 hi, .int .u64 lo, .int .u64 y] J0.tabs 11 [false,false,false]
def dC (yn0 u q r:Int):Bool:=match decide (q≥4294967296) with
 | true=>true
 | false=>decide (IntKind.u64.wrap (q*yn0) > IntKind.u64.wrap (IntKind.u64.wrap (4294967296*r)+u))
section
variable (y s yn1 yn0 un32 un10 un1 un0 q r q1 un21:Int)
theorem i1v (h:dC yn0 un1 q r=true) (h2:decide ((4294967296:Int)≤IntKind.u64.wrap (r+yn1))=true):o9 XW3 g0e (TD1 y s yn1 yn0 un32 un10 un1 un0 q r) (.exit 0) (TE1 y s yn1 yn0 un32 un10 un1 un0 (IntKind.u64.wrap (q-1))):=
 b7 (Base.cx_ok iH 10).1 progOk.mixed [] 200 [true,true] [] (l:=[decide ((4294967296:Int)≤IntKind.u64.wrap (r+yn1))=true,dC yn0 un1 q r=true]) (by kernel_rfl) ⟨h2,h,trivial⟩ (by kernel_rfl) (by kernel_rfl)
theorem o1c (h:dC yn0 un1 q r=true) (h2:decide ((4294967296:Int)≤IntKind.u64.wrap (r+yn1))=false):o9 XW3 g0e (TD1 y s yn1 yn0 un32 un10 un1 un0 q r) .normal (TD1 y s yn1 yn0 un32 un10 un1 un0 (IntKind.u64.wrap (q-1)) (IntKind.u64.wrap (r+yn1))):=
 b7 (Base.cx_ok iH 10).1 progOk.mixed [] 200 [true,false] [] (l:=[decide ((4294967296:Int)≤IntKind.u64.wrap (r+yn1))=false,dC yn0 un1 q r=true]) (by kernel_rfl) ⟨h2,h,trivial⟩ (by kernel_rfl) (by kernel_rfl)
theorem w1w (h:dC yn0 un1 q r=false):o9 XW3 g0e (TD1 y s yn1 yn0 un32 un10 un1 un0 q r) (.exit 0) (TE1 y s yn1 yn0 un32 un10 un1 un0 q):=
 b7 (Base.cx_ok iH 10).1 progOk.mixed [] 200 [false] [] (l:=[dC yn0 un1 q r=false]) (by kernel_rfl) ⟨h,trivial⟩ (by kernel_rfl) (by kernel_rfl)
theorem c1r (h:dC yn0 un0 q r=true) (h2:decide ((4294967296:Int)≤IntKind.u64.wrap (r+yn1))=true):o9 XW3 e0g (TD2 y s yn1 yn0 un0 q1 un21 q r) (.exit 2) (TE2 y s yn1 yn0 un0 q1 un21 (IntKind.u64.wrap (q-1))):=
 b7 (Base.cx_ok iH 10).1 progOk.mixed [] 200 [true,true] [] (l:=[decide ((4294967296:Int)≤IntKind.u64.wrap (r+yn1))=true,dC yn0 un0 q r=true]) (by kernel_rfl) ⟨h2,h,trivial⟩ (by kernel_rfl) (by kernel_rfl)
theorem o1x (h:dC yn0 un0 q r=true) (h2:decide ((4294967296:Int)≤IntKind.u64.wrap (r+yn1))=false):o9 XW3 e0g (TD2 y s yn1 yn0 un0 q1 un21 q r) .normal (TD2 y s yn1 yn0 un0 q1 un21 (IntKind.u64.wrap (q-1)) (IntKind.u64.wrap (r+yn1))):=
 b7 (Base.cx_ok iH 10).1 progOk.mixed [] 200 [true,false] [] (l:=[decide ((4294967296:Int)≤IntKind.u64.wrap (r+yn1))=false,dC yn0 un0 q r=true]) (by kernel_rfl) ⟨h2,h,trivial⟩ (by kernel_rfl) (by kernel_rfl)
theorem w1q (h:dC yn0 un0 q r=false):o9 XW3 e0g (TD2 y s yn1 yn0 un0 q1 un21 q r) (.exit 2) (TE2 y s yn1 yn0 un0 q1 un21 q):=
 b7 (Base.cx_ok iH 10).1 progOk.mixed [] 200 [false] [] (l:=[dC yn0 un0 q r=false]) (by kernel_rfl) ⟨h,trivial⟩ (by kernel_rfl) (by kernel_rfl)
end
def dS (y:Int):Int:=IntKind.u64.wrap (IntKind.i64.wrap (64-C1 y))
def dSh (x s:Int):Int:=IntKind.u64.wrap (x*2 ^(min s.toNat 64))
def dHi (x:Int):Int:=x.fdiv 4294967296
def dLo (x:Int):Int:=bits .and .u64 x 4294967295
def dU (hi lo s:Int):Int:=bits .or .u64 (dSh hi s) (lo.fdiv (2 ^(min (IntKind.u64.wrap (64-s)).toNat 64)))
def dQ (u v:Int):Int:=IntKind.u64.wrap (u.tdiv v)
def dR (u v:Int):Int:=IntKind.u64.wrap (u-IntKind.u64.wrap (dQ u v*v))
def dN (u a q y:Int):Int:=IntKind.u64.wrap (IntKind.u64.wrap (IntKind.u64.wrap (u*4294967296)+a)-IntKind.u64.wrap (q*y))
section
variable (hi lo y s q yv yn1 yn0 un32 un10 un1 un0 q1 un21 q0:Int)
theorem n1v (x:AX) (s':St) (h:a7 XW3 g0e (TD1 (dSh y (dS y)) (dS y) (dHi (dSh y (dS y))) (dLo (dSh y (dS y))) (dU hi lo (dS y)) (dSh lo (dS y)) (dHi (dSh lo (dS y))) (dLo (dSh lo (dS y))) (dQ (dU hi lo (dS y)) (dHi (dSh y (dS y)))) (dR (dU hi lo (dS y)) (dHi (dSh y (dS y))))) x s'):
  a7 XW3 g0e (S1 hi lo y) x s':=f9 h [] (by kernel_rfl) (by kernel_rfl) (by kernel_rfl)
end
noncomputable def u1e (f:Nat):Code:=match u0h Tryz.prog.funcs.toList f with
 | some fn=>match fn.body with
  | some c=>c
  | none=> .skip
 | none=> .skip
noncomputable def S2 (hi lo y:Int) (e:St):St:=match B2 XW3 [J5 (.exit 0) (fun _=>e),fun s=>some (.exit 1000000,s)] 200 (u1e 196) ⟨([.int .u64 hi, .int .u64 lo, .int .u64 y] :List Value).map .v++List.replicate 132 (.v undef),J0.tabs,11,[false,false,false],[],0,none,[],11⟩ with
 | some (_,s)=>s.core
 | none=>e
theorem i1i (hi lo y:Int):a6 XW3 [] 200 196 [.int .u64 hi, .int .u64 lo, .int .u64 y] [false,false,true] =some (Value.tuple { toList:=[Value.int IntKind.u64 (IntKind.u64.wrap (lo.tdiv y)),Value.int IntKind.u64 (lo.tmod y)]},[y=0→False,y=0→False,(hi==Int.ofNat 0)=true,decide (y≤hi)=false,(y==Int.ofNat 0)=false]):=by kernel_rfl
theorem m1q (hi lo y yv s yn1 yn0 un32 un10 un1 un0 q1 un21 q0:Int):a6 XW3 [J5 (.exit 0) (fun _=>TE1 yv s yn1 yn0 un32 un10 un1 un0 q1),J5 (.exit 2) (fun _=>TE2 yv s yn1 yn0 un0 q1 un21 q0)] 200 196 [.int .u64 hi, .int .u64 lo, .int .u64 y] [false,false,false] =some (Value.tuple { toList:=[Value.int IntKind.u64 (IntKind.u64.wrap (IntKind.u64.wrap (q1*Int.ofNat 4294967296)+q0)),Value.int IntKind.u64 ((IntKind.u64.wrap (IntKind.u64.wrap (IntKind.u64.wrap (un21*Int.ofNat 4294967296)+un0)-IntKind.u64.wrap (q0*yv))).fdiv (Int.ofNat (2 ^min s.toNat 64)))]},[Int.ofNat 0≤s,a7 XW3 e0g (S2 hi lo y (TE1 yv s yn1 yn0 un32 un10 un1 un0 q1)) (.exit 2) (TE2 yv s yn1 yn0 un0 q1 un21 q0),yn1=0→False,a7 XW3 g0e (S1 hi lo y) (.exit 0) (TE1 yv s yn1 yn0 un32 un10 un1 un0 q1),(IntKind.u64.wrap (y*2 ^min (IntKind.u64.wrap (IntKind.i64.wrap (64-C1 y))).toNat IntKind.u64.bits)).fdiv (2 ^min (Int.toNat 32) IntKind.u64.bits)=0→False,Int.ofNat 0≤IntKind.u64.wrap (IntKind.i64.wrap (Int.ofNat 64-C1 y)),Int.ofNat 0≤IntKind.u64.wrap (Int.ofNat 64-IntKind.u64.wrap (IntKind.i64.wrap (Int.ofNat 64-C1 y))),Int.ofNat 0≤IntKind.u64.wrap (IntKind.i64.wrap (Int.ofNat 64-C1 y)),Int.ofNat 0≤IntKind.u64.wrap (IntKind.i64.wrap (Int.ofNat 64-C1 y)),Int.ofNat 0≤y∧y < Int.ofNat 18446744073709551616,(hi==Int.ofNat 0)=false,decide (y≤hi)=false,(y==Int.ofNat 0)=false]):=by kernel_rfl
theorem m1v (hi lo y yv s yn1 yn0 un32 un10 un1 un0 q1:Int) (x:AX) (s':St) (h:a7 XW3 e0g (TD2 yv s yn1 yn0 un0 q1 (dN un32 un1 q1 yv) (dQ (dN un32 un1 q1 yv) yn1) (dR (dN un32 un1 q1 yv) yn1)) x s'):
  a7 XW3 e0g (S2 hi lo y (TE1 yv s yn1 yn0 un32 un10 un1 un0 q1)) x s':=f9 h [] (by kernel_rfl) (by kernel_rfl) (by kernel_rfl)
theorem U9 {n:Nat} (h:n < 18446744073709551616):IntKind.u64.wrap (n:Int)=n:=by
 have:=IntKind.wrap_u64 (n:Int)
 omega
theorem s1m {X:Cx} {c:Code} {x:AX} (hx:x≠ .normal) (S:Int→Int→St) (E:Int→St) {Y y1 y0 U u:Nat} (hY:Y=y1*4294967296+y0) (h1:2147483648≤y1) (h2:y1 < 4294967296) (h3:y0 < 4294967296) (hU:U < Y) (hu:u < 4294967296)
  (s1:∀ q r:Int,dC y0 u q r=true→decide ((4294967296:Int)≤IntKind.u64.wrap (r+(y1:Int)))=true→o9 X c (S q r) x (E (IntKind.u64.wrap (q-1))))
  (s2:∀ q r:Int,dC y0 u q r=true→decide ((4294967296:Int)≤IntKind.u64.wrap (r+(y1:Int)))=false→o9 X c (S q r) .normal (S (IntKind.u64.wrap (q-1)) (IntKind.u64.wrap (r+(y1:Int)))))
  (s3:∀ q r:Int,dC y0 u q r=false→o9 X c (S q r) x (E q)):
  a7 X c (S ((U/y1:Nat):Int) ((U%y1:Nat):Int)) x (E (((U*4294967296+u)/Y:Nat):Int)):=by
 have hYp:0 < Y:=by omega
 have hT:∀ q:Nat,q*Y≤U*4294967296+u↔q≤(U*4294967296+u)/Y:=fun q=>(Nat.le_div_iff_mul_le hYp).symm
 have hTB:(U*4294967296+u)/Y < 4294967296:=by
  rw [Nat.div_lt_iff_lt_mul hYp]
  have:(U+1)*4294967296≤Y*4294967296:=Nat.mul_le_mul_right _ hU
  omega
 have hT0:∀ q:Nat,U*4294967296+u < (q+1)*Y→(U*4294967296+u)/Y≤q:=fun q h=>by
  have:=(Nat.div_lt_iff_lt_mul hYp).2 h
  omega
 generalize (U*4294967296+u)/Y=t at*
 have hmul:∀ q:Nat,q*Y=q*y1*4294967296+q*y0:=fun q=>by rw [hY,Nat.mul_add,Nat.mul_assoc]
 have e0:U-U/y1*y1=U%y1:=by
  have hd:=Nat.div_add_mod U y1
  rw [Nat.mul_comm] at hd
  omega
 rw [← e0]
 refine A8 (fun q:Nat=>S q ((U-q*y1:Nat):Int)) id (fun q=>t≤q∧q*y1≤U∧U-q*y1 < 4294967296) hx (fun q hq=> ?_) (U/y1) ?_
 ·obtain⟨g1,g2,g3⟩:=hq
  have hle:q≤4294967300:=by
   rcases Nat.lt_or_ge 4294967300 q with h | h
   ·have:4294967301*y1≤q*y1:=Nat.mul_le_mul_right _ h
    omega
   ·exact h
  have em:=hmul q
  have hqt:=hT q
  generalize hm:q*y1=m at*
  have hq0:q < 4294967296→q*y0 < 18446744073709551616:=fun h=>by
   have:q*y0≤4294967295*4294967295:=Nat.mul_le_mul (by omega) (by omega)
   omega
  have hwr:IntKind.u64.wrap (IntKind.u64.wrap (4294967296*((U-m:Nat):Int))+(u:Int))=((4294967296*(U-m)+u:Nat):Int):=by
   have e1:(4294967296:Int)*((U-m:Nat):Int)=((4294967296*(U-m):Nat):Int):=by omega
   rw [e1,U9 (by omega)]
   have e2:((4294967296*(U-m):Nat):Int)+(u:Int)=((4294967296*(U-m)+u:Nat):Int):=by omega
   rw [e2,U9 (by omega)]
  have hc:dC y0 u (q:Int) ((U-m:Nat):Int)=true↔t < q:=by
   unfold dC
   by_cases hb:4294967296≤q
   ·have:decide ((q:Int)≥4294967296)=true:=by simp; omega
    rw [this]
    simp only [true_iff]
    omega
   ·have:decide ((q:Int)≥4294967296)=false:=by simp; omega
    rw [this,hwr]
    have e3:(q:Int)*(y0:Int)=((q*y0:Nat):Int):=by rw [Int.natCast_mul]
    rw [e3,U9 (hq0 (by omega))]
    simp only [decide_eq_true_eq]
    omega
  by_cases hcond:dC y0 u (q:Int) ((U-m:Nat):Int)=true
  ·have hlt:=hc.1 hcond
   have ew:IntKind.u64.wrap ((q:Int)-1)=((q-1:Nat):Int):=by
    have:(q:Int)-1=((q-1:Nat):Int):=by omega
    rw [this,U9 (by omega)]
   have er:IntKind.u64.wrap (((U-m:Nat):Int)+(y1:Int))=((U-m+y1:Nat):Int):=by
    have:((U-m:Nat):Int)+(y1:Int)=((U-m+y1:Nat):Int):=by omega
    rw [this,U9 (by omega)]
   have hm1:(q-1)*y1+y1=m:=by
    rw [← hm,← Nat.succ_mul]
    congr 1
    omega
   have em1:=hmul (q-1)
   have hqt1:=hT (q-1)
   generalize hm2:(q-1)*y1=m1 at*
   by_cases hbr:4294967296≤U-m+y1
   ·right
    have:=s1 q ((U-m:Nat):Int) hcond (by rw [er]; simp only [decide_eq_true_eq]; omega)
    rw [ew] at this
    have hqB:q-1 < 4294967296:=by
     rcases Nat.lt_or_ge (q-1) 4294967296 with h | h
     ·exact h
     ·have:4294967296*y1≤(q-1)*y1:=Nat.mul_le_mul_right _ h
      omega
    have hq1:(q-1)*y0≤4294967295*4294967295:=Nat.mul_le_mul (by omega) (by omega)
    have he:q-1=t:=by
     apply Nat.le_antisymm
     ·rw [← hqt1]
      omega
     ·omega
    rw [← he]
    exact this
   ·left
    have:=s2 q ((U-m:Nat):Int) hcond (by rw [er]; simp only [decide_eq_false_iff_not]; omega)
    rw [ew,er] at this
    refine⟨q-1,⟨by omega,by rw [hm2]; omega,by rw [hm2]; omega⟩,by simp only [id]; omega,?_⟩
    rw [hm2]
    have e:U-m1=U-m+y1:=by omega
    rw [e]
    exact this
  ·right
   have hcond':dC y0 u (q:Int) ((U-m:Nat):Int)=false:=by simpa using hcond
   have he:q=t:=by
    have:¬ t < q:=fun h=>hcond (hc.2 h)
    omega
   rw [← he]
   exact s3 q _ hcond'
 ·have hd:=Nat.div_add_mod U y1
  have hmd:U%y1 < y1:=Nat.mod_lt _ (by omega)
  rw [Nat.mul_comm] at hd
  refine⟨?_,by omega,by omega⟩
  refine hT0 _ ?_
  have:(U*4294967296+u) < (U/y1+1)*Y:=by
   have e:=hmul (U/y1+1)
   have e2:(U/y1+1)*y1=U/y1*y1+y1:=by rw [Nat.add_mul,Nat.one_mul]
   omega
  exact this
theorem e0r (n:Nat):dHi n=((n/4294967296:Nat):Int):=by unfold dHi; rw [Int.fdiv_eq_ediv_of_nonneg _ (by omega)]; omega
theorem w0j {n:Nat} (h:n < 18446744073709551616):dLo n=((n%4294967296:Nat):Int):=by
 unfold dLo
 have:=bits_and_u64_nat n 4294967295 h (by omega)
 have e:n&&& 4294967295=n%4294967296:=Nat.and_two_pow_sub_one_eq_mod n 32
 rw [e] at this
 exact this
theorem r0q {u v:Nat} (hu:u < 18446744073709551616):dQ u v=((u/v:Nat):Int):=by
 unfold dQ
 have:(u:Int).tdiv (v:Int)=((u/v:Nat):Int):=(Int.ofNat_tdiv u v).symm
 rw [this,U9 (Nat.lt_of_le_of_lt (Nat.div_le_self u v) hu)]
theorem l1e {u v:Nat} (hu:u < 18446744073709551616) (hv:v < 18446744073709551616) (hv0:0 < v):dR u v=((u%v:Nat):Int):=by
 unfold dR
 rw [r0q hu]
 have hd:=Nat.div_add_mod u v
 rw [Nat.mul_comm] at hd
 have e:((u/v:Nat):Int)*(v:Int)=((u/v*v:Nat):Int):=by rw [Int.natCast_mul]
 have hm:=Nat.mod_lt u hv0
 rw [e,U9 (by omega)]
 have e2:(u:Int)- ((u/v*v:Nat):Int)=((u%v:Nat):Int):=by omega
 rw [e2,U9 (by omega)]
theorem k1q {u a q y r:Nat} (h:u*4294967296+a=q*y+r) (hr:r < 18446744073709551616):dN u a q y=(r:Int):=by
 unfold dN
 simp only [IntKind.wrap_u64]
 have e1:(q:Int)*(y:Int)=((q*y:Nat):Int):=by rw [Int.natCast_mul]
 rw [e1]
 generalize q*y=m at*
 omega
theorem g0h {x s:Nat} (hs:s≤64):dSh x s=((x*2 ^s%18446744073709551616:Nat):Int):=by
 unfold dSh
 rw [Int.toNat_natCast,Nat.min_eq_left hs,IntKind.wrap_u64]
 have:(x:Int)*2 ^s=((x*2 ^s:Nat):Int):=by rw [Int.natCast_mul,Int.natCast_pow]; rfl
 rw [this]
 omega
theorem w1t {hi lo s:Nat} (hs:s≤64) (h1:hi*2 ^s < 18446744073709551616) (h2:lo < 18446744073709551616):dU hi lo s=((hi*2 ^s+lo/2 ^(64-s):Nat):Int):=by
 unfold dU
 rw [g0h hs,Nat.mod_eq_of_lt h1]
 have e1:IntKind.u64.wrap (64- (s:Int))=((64-s:Nat):Int):=by
  have:(64:Int)- (s:Int)=((64-s:Nat):Int):=by omega
  rw [this,U9 (by omega)]
 have e2:(lo:Int).fdiv (2 ^(min (IntKind.u64.wrap (64- (s:Int))).toNat 64))=((lo/2 ^(64-s):Nat):Int):=by
  rw [e1,Int.toNat_natCast,Nat.min_eq_left (by omega),Int.fdiv_eq_ediv_of_nonneg _ (by
   have:(0:Int) < 2 ^(64-s):=Int.pow_pos (by decide)
   omega),Int.natCast_ediv,Int.natCast_pow]
  rfl
 rw [e2]
 have hlt:lo/2 ^(64-s) < 2 ^s:=by
  rw [Nat.div_lt_iff_lt_mul (Nat.two_pow_pos _),← Nat.pow_add]
  have:s+(64-s)=64:=by omega
  rw [this]
  exact h2
 have hlt2:lo/2 ^(64-s) < 18446744073709551616:=Nat.lt_of_le_of_lt (Nat.div_le_self _ _) h2
 rw [bits_or_u64_nat _ _ h1 hlt2]
 have:=Nat.shiftLeft_add_eq_or_of_lt hlt hi
 rw [Nat.shiftLeft_eq] at this
 rw [this]
theorem n0a {hi lo y:Nat} (h1:hi < y) (h2:lo < 18446744073709551616) (h3:y < 18446744073709551616):
  Pure Tryz.prog J0 196 [.int .u64 hi, .int .u64 lo, .int .u64 y] (.tuple ⟨[.int .u64 (((hi*18446744073709551616+lo)/y:Nat):Int), .int .u64 (((hi*18446744073709551616+lo)%y:Nat):Int)]⟩):=by
 have hy0:0 < y:=by omega
 have d1:((y:Int)==Int.ofNat 0)=false:=by simp; omega
 have d2:decide ((y:Int)≤(hi:Int))=false:=by simp; omega
 by_cases hh:hi=0
 ·subst hh
  have:=d6 iH 10 [] _ (i1i ((0:Nat):Int) lo y) ⟨by omega,by omega,rfl,d2,d1,trivial⟩
  have e1:IntKind.u64.wrap ((lo:Int).tdiv (y:Int))=((lo/y:Nat):Int):=by
   have:(lo:Int).tdiv (y:Int)=((lo/y:Nat):Int):=(Int.ofNat_tdiv lo y).symm
   rw [this,U9 (Nat.lt_of_le_of_lt (Nat.div_le_self _ _) h2)]
  have e2:(lo:Int).tmod (y:Int)=((lo%y:Nat):Int):=(Int.ofNat_tmod lo y).symm
  rw [e1,e2] at this
  have e3:0*18446744073709551616+lo=lo:=by omega
  rw [e3]
  exact this
 ·have hd0:((hi:Int)==Int.ofNat 0)=false:=by simp; omega
  have hbl:=bl_le.2 (show y < 2 ^64 from h3)
  have hbp:=bl_pos.2 hy0
  obtain⟨s,hs⟩:∃ s,s=64-bl y:=⟨_,rfl⟩
  have hs64:s≤64:=by omega
  have hsV:dS y=(s:Int):=by
   unfold dS C1
   rw [Int.toNat_natCast]
   have e:(64:Int)- ((bl y:Nat):Int)=(s:Int):=by omega
   rw [e,m4 (by omega),U9 (by omega)]
  have hp:2 ^64=(18446744073709551616:Nat):=by decide
  have hYlt:y*2 ^s < 18446744073709551616:=by
   have:=uO y
   have:y*2 ^s < 2 ^bl y*2 ^s:=Nat.mul_lt_mul_of_pos_right this (Nat.two_pow_pos s)
   rw [← Nat.pow_add,show bl y+s=64 by omega,hp] at this
   exact this
  have hYge:9223372036854775808≤y*2 ^s:=by
   have:=j1w hy0
   have:2 ^(bl y-1)*2 ^s≤y*2 ^s:=Nat.mul_le_mul_right _ this
   rw [← Nat.pow_add,show bl y-1+s=63 by omega] at this
   exact this
  have hyV:dSh y s=((y*2 ^s:Nat):Int):=by rw [g0h hs64,Nat.mod_eq_of_lt hYlt]
  have hhiS:hi*2 ^s+2 ^s≤y*2 ^s:=by
   have:(hi+1)*2 ^s≤y*2 ^s:=Nat.mul_le_mul_right _ h1
   rw [Nat.add_mul,Nat.one_mul] at this
   exact this
  have hloS:lo/2 ^(64-s) < 2 ^s:=by
   rw [Nat.div_lt_iff_lt_mul (Nat.two_pow_pos _),← Nat.pow_add,show s+(64-s)=64 by omega]
   exact h2
  have hU:dU hi lo s=((hi*2 ^s+lo/2 ^(64-s):Nat):Int):=w1t hs64 (Nat.lt_of_le_of_lt (Nat.le_add_right _ _) (Nat.lt_of_le_of_lt hhiS hYlt)) h2
  have hL:dSh lo s=((lo*2 ^s%18446744073709551616:Nat):Int):=g0h hs64
  have hN:(hi*18446744073709551616+lo)*2 ^s=(hi*2 ^s+lo/2 ^(64-s))*18446744073709551616+lo*2 ^s%18446744073709551616:=by
   have e1:lo*2 ^s/18446744073709551616=lo/2 ^(64-s):=by
    have:(18446744073709551616:Nat)=2 ^(64-s)*2 ^s:=by rw [← Nat.pow_add,show 64-s+s=64 by omega]
    rw [this,Nat.mul_div_mul_right _ _ (Nat.two_pow_pos s)]
   have:=Nat.div_add_mod (lo*2 ^s) 18446744073709551616
   rw [e1] at this
   rw [Nat.add_mul,Nat.add_mul,Nat.mul_right_comm]
   omega
  generalize hYe:y*2 ^s=Y at*
  generalize hUe:hi*2 ^s+lo/2 ^(64-s)=U at*
  generalize hLe:lo*2 ^s%18446744073709551616=L at*
  have hLlt:L < 18446744073709551616:=by rw [← hLe]; exact Nat.mod_lt _ (by decide)
  have hUY:U < Y:=by omega
  have hY1:Y=Y/4294967296*4294967296+Y%4294967296:=by omega
  have L1:=s1m (X:=XW3) (c:=g0e) (x:= .exit 0) (by intro e; cases e) (fun q r=>TD1 Y s (Y/4294967296:Nat) (Y%4294967296:Nat) U L (L/4294967296:Nat) (L%4294967296:Nat) q r) (fun q=>TE1 Y s (Y/4294967296:Nat) (Y%4294967296:Nat) U L (L/4294967296:Nat) (L%4294967296:Nat) q)
   (Y:=Y) (y1:=Y/4294967296) (y0:=Y%4294967296) (U:=U) (u:=L/4294967296) hY1 (by omega) (by omega) (by omega) hUY (by omega) (fun q r=>i1v _ _ _ _ _ _ _ _ q r) (fun q r=>o1c _ _ _ _ _ _ _ _ q r) (fun q r=>w1w _ _ _ _ _ _ _ _ q r)
  have hq1:(U*4294967296+L/4294967296)/Y*Y+(U*4294967296+L/4294967296)%Y=U*4294967296+L/4294967296:=by
   have:=Nat.div_add_mod (U*4294967296+L/4294967296) Y
   rw [Nat.mul_comm] at this
   exact this
  have hR1:(U*4294967296+L/4294967296)%Y < Y:=Nat.mod_lt _ (by omega)
  have hT1:(U*4294967296+L/4294967296)/Y < 4294967296:=by
   rw [Nat.div_lt_iff_lt_mul (by omega)]
   have:(U+1)*4294967296≤Y*4294967296:=Nat.mul_le_mul_right _ hUY
   omega
  obtain⟨q1,hq1e⟩:∃ q1,q1=(U*4294967296+L/4294967296)/Y:=⟨_,rfl⟩
  obtain⟨R1,hR1e⟩:∃ R1,R1=(U*4294967296+L/4294967296)%Y:=⟨_,rfl⟩
  rw [← hq1e] at L1 hq1 hT1
  rw [← hR1e] at hq1 hR1
  have L2:=s1m (X:=XW3) (c:=e0g) (x:= .exit 2) (by intro e; cases e) (fun q r=>TD2 Y s (Y/4294967296:Nat) (Y%4294967296:Nat) (L%4294967296:Nat) q1 R1 q r) (fun q=>TE2 Y s (Y/4294967296:Nat) (Y%4294967296:Nat) (L%4294967296:Nat) q1 R1 q)
   (Y:=Y) (y1:=Y/4294967296) (y0:=Y%4294967296) (U:=R1) (u:=L%4294967296) hY1 (by omega) (by omega) (by omega) hR1 (by omega) (fun q r=>c1r _ _ _ _ _ q r _ _) (fun q r=>o1x _ _ _ _ _ q r _ _) (fun q r=>w1q _ _ _ _ _ q r _ _)
  have hq0:(R1*4294967296+L%4294967296)/Y*Y+(R1*4294967296+L%4294967296)%Y=R1*4294967296+L%4294967296:=by
   have:=Nat.div_add_mod (R1*4294967296+L%4294967296) Y
   rw [Nat.mul_comm] at this
   exact this
  have hR0:(R1*4294967296+L%4294967296)%Y < Y:=Nat.mod_lt _ (by omega)
  have hT0:(R1*4294967296+L%4294967296)/Y < 4294967296:=by
   rw [Nat.div_lt_iff_lt_mul (by omega)]
   have:(R1+1)*4294967296≤Y*4294967296:=Nat.mul_le_mul_right _ hR1
   omega
  obtain⟨q0,hq0e⟩:∃ q0,q0=(R1*4294967296+L%4294967296)/Y:=⟨_,rfl⟩
  obtain⟨R0,hR0e⟩:∃ R0,R0=(R1*4294967296+L%4294967296)%Y:=⟨_,rfl⟩
  rw [← hq0e] at L2 hq0 hT0
  rw [← hR0e] at hq0 hR0
  have hall:(hi*18446744073709551616+lo)*2 ^s=(q1*4294967296+q0)*Y+R0:=by
   rw [hN,Nat.add_mul,Nat.mul_right_comm]
   omega
  have hres:(hi*18446744073709551616+lo)/y=q1*4294967296+q0∧R0=(hi*18446744073709551616+lo)%y*2 ^s:=by
   have e1:(hi*18446744073709551616+lo)*2 ^s/ (y*2 ^s)=(hi*18446744073709551616+lo)/y:=Nat.mul_div_mul_right _ _ (Nat.two_pow_pos s)
   have e2:(hi*18446744073709551616+lo)*2 ^s%(y*2 ^s)=(hi*18446744073709551616+lo)%y*2 ^s:=Nat.mul_mod_mul_right _ _ _
   have hall':(hi*18446744073709551616+lo)*2 ^s=Y*(q1*4294967296+q0)+R0:=by rw [hall,Nat.mul_comm Y]
   have hY0:0 < Y:=by omega
   rw [hYe,hall'] at e1 e2
   rw [Nat.mul_add_div hY0,Nat.div_eq_of_lt hR0,Nat.add_zero] at e1
   rw [Nat.mul_add_mod,Nat.mod_eq_of_lt hR0] at e2
   exact⟨e1.symm,e2⟩
  have hin1:=n1v hi lo y (.exit 0) (TE1 Y s (Y/4294967296:Nat) (Y%4294967296:Nat) U L (L/4294967296:Nat) (L%4294967296:Nat) q1) (by
   rw [hsV,hyV,hU,hL,e0r,w0j hYlt,e0r,w0j hLlt,r0q (by omega),l1e (by omega) (by omega) (by omega)]
   exact L1)
  have hdn:dN U (L/4294967296:Nat) q1 Y=(R1:Int):=k1q hq1.symm (by omega)
  have hin2:=m1v hi lo y Y s (Y/4294967296:Nat) (Y%4294967296:Nat) U L (L/4294967296:Nat) (L%4294967296:Nat) q1 (.exit 2) (TE2 Y s (Y/4294967296:Nat) (Y%4294967296:Nat) (L%4294967296:Nat) q1 R1 q0) (by
   rw [hdn,r0q (by omega),l1e (by omega) (by omega) (by omega)]
   exact L2)
  have hyn1:(IntKind.u64.wrap ((y:Int)*2 ^min (IntKind.u64.wrap (IntKind.i64.wrap (64-C1 y))).toNat IntKind.u64.bits)).fdiv (2 ^min (Int.toNat 32) IntKind.u64.bits)=((Y/4294967296:Nat):Int):=by
   have:dHi (dSh y (dS y))=((Y/4294967296:Nat):Int):=by rw [hsV,hyV,e0r]
   exact this
  have hsx:Int.ofNat 0≤IntKind.u64.wrap (IntKind.i64.wrap (Int.ofNat 64-C1 y)):=by
   have:dS y=(s:Int):=hsV
   show (0:Int)≤dS y
   omega
  have hsx2:Int.ofNat 0≤IntKind.u64.wrap (Int.ofNat 64-IntKind.u64.wrap (IntKind.i64.wrap (Int.ofNat 64-C1 y))):=by
   show (0:Int)≤IntKind.u64.wrap (64-dS y)
   rw [hsV]
   have:=IntKind.wrap_u64 (64- (s:Int))
   omega
  have:=d6 iH 10 _ _ (m1q hi lo y Y s (Y/4294967296:Nat) (Y%4294967296:Nat) U L (L/4294967296:Nat) (L%4294967296:Nat) q1 R1 q0) ⟨by simp,hin2,by omega,hin1,by rw [hyn1]; omega,hsx,hsx2,hsx,hsx,⟨by simp,by simp only [Int.ofNat_eq_natCast]; omega⟩,hd0,d2,d1,trivial⟩
  have f1:IntKind.u64.wrap (IntKind.u64.wrap ((q1:Int)*Int.ofNat 4294967296)+(q0:Int))=(((hi*18446744073709551616+lo)/y:Nat):Int):=by
   rw [hres.1]
   simp only [IntKind.wrap_u64,Int.ofNat_eq_natCast]
   omega
  have f2:(IntKind.u64.wrap (IntKind.u64.wrap (IntKind.u64.wrap ((R1:Int)*Int.ofNat 4294967296)+((L%4294967296:Nat):Int))-IntKind.u64.wrap ((q0:Int)*(Y:Int)))).fdiv (Int.ofNat (2 ^min (s:Int).toNat 64))=(((hi*18446744073709551616+lo)%y:Nat):Int):=by
   have e:dN R1 (L%4294967296:Nat) q0 Y=(R0:Int):=k1q hq0.symm (by omega)
   have e':IntKind.u64.wrap (IntKind.u64.wrap (IntKind.u64.wrap ((R1:Int)*Int.ofNat 4294967296)+((L%4294967296:Nat):Int))-IntKind.u64.wrap ((q0:Int)*(Y:Int)))=(R0:Int):=e
   rw [e',Int.toNat_natCast,Nat.min_eq_left hs64,Int.fdiv_eq_ediv_of_nonneg (R0:Int) (show (0:Int)≤Int.ofNat (2 ^s) from Int.natCast_nonneg _),hres.2]
   have:=Nat.mul_div_cancel ((hi*18446744073709551616+lo)%y) (Nat.two_pow_pos s)
   show (((hi*18446744073709551616+lo)%y*2 ^s:Nat):Int)/ ((2 ^s:Nat):Int)=_
   rw [← Int.natCast_ediv,this]
  rw [f1,f2] at this
  exact this
def r1q (hi lo y:Int):Int:=(((hi.toNat*18446744073709551616+lo.toNat)/y.toNat:Nat):Int)
def x1t (hi lo y:Int):Int:=(((hi.toNat*18446744073709551616+lo.toNat)%y.toNat:Nat):Int)
def mR:List Value→Option (Value×List Prop)
 | [.int .u64 hi, .int .u64 lo, .int .u64 y] =>some (.tuple ⟨[.int .u64 (r1q hi lo y), .int .u64 (x1t hi lo y)]⟩,[(0≤hi∧hi < y)∧(0≤lo∧lo < 18446744073709551616)∧y < 18446744073709551616])
 | _=>none
theorem gV (args:List Value) (v:Value) (l:List Prop) (h:mR args=some (v,l)) (hl:d5 l):Pure Tryz.prog J0 196 args v:=by
 unfold mR at h
 split at h
 case h_2=>cases h
 rename_i hi lo y
 cases h
 obtain⟨⟨h1,h2⟩,⟨h3,h4⟩,h5⟩:=hl.1
 have:=n0a (hi:=hi.toNat) (lo:=lo.toNat) (y:=y.toNat) (by omega) (by omega) (by omega)
 rw [Int.toNat_of_nonneg h1,Int.toNat_of_nonneg h3,Int.toNat_of_nonneg (by omega:0≤y)] at this
 exact this
noncomputable def n0g:Tab:=i6 196 mR r1f
theorem dV:N1 Tryz.prog J0 n0g:=b6 gV k0k
noncomputable def bW4:Base:=⟨Tryz.prog,J0,false,n0g,c0i,200,H8⟩
theorem O6:BaseOk bW4:=⟨progOk,dV,cG,i7⟩
noncomputable abbrev XW4:Cx:=bW4.cx 10
noncomputable def o1w:Code:=A2 Tryz.prog 143 0
def p0j (a:Bool) (xs L:List Int) (na N:Nat) (d r i:Int):St:=
 ⟨only 38 [(1, .int .u64 d),(2, .pointer (some ⟨13,0,none⟩)),(4, .pointer (some ⟨14,0,none⟩)),(6,slV 15 N),(7, .int .u64 r),(8, .int .i64 i)],[(15, .row T8 1 (.ints .u64 L) 16),(14, .cells [.bool false, .slice none 0 0] kW),(13, .cells [.bool a,slV 11 na] kW),(11, .ints .u64 xs)],17,[],[],0,none,[],13⟩
theorem g1a (a:Bool) (xs L:List Int) (na N:Nat) (d r i:Int) (hl:d5 [i.toNat < L.length,(Int.ofNat 0≤i∧i < Int.ofNat N)∧0 < L.length,(Int.ofNat 0≤r∧r < d)∧(Int.ofNat 0≤xs.getD i.toNat (Int.ofNat 0)∧xs.getD i.toNat (Int.ofNat 0) < Int.ofNat 18446744073709551616)∧d < Int.ofNat 18446744073709551616,i.toNat < xs.length,(Int.ofNat 0≤i∧i < Int.ofNat na)∧0 < xs.length,decide (Int.ofNat 0≤i)=true]):o9 XW4 o1w (p0j a xs L na N d r i) .normal (p0j a xs (bM L i.toNat (r1q r (xs.getD i.toNat 0) d)) na N d (x1t r (xs.getD i.toNat 0) d) (IntKind.i64.wrap (i-1))):=
 b7 (Base.cx_ok O6 10).1 progOk.mixed [] 200 [true] [] (by kernel_rfl) hl (by kernel_rfl) (by kernel_rfl)
theorem p1b (a:Bool) (xs L:List Int) (na N:Nat) (d r i:Int) (hl:d5 [decide (Int.ofNat 0≤i)=false]):o9 XW4 o1w (p0j a xs L na N d r i) (.exit 0) (p0j a xs L na N d r i):=
 b7 (Base.cx_ok O6 10).1 progOk.mixed [] 200 [false] [] (by kernel_rfl) hl (by kernel_rfl) (by kernel_rfl)
theorem m1e (a s:Bool) (xs L R:List Int) (na N:Nat) (d r i q:Int):n8 XW4 [J5 (.exit 0) (fun _=>p0j a xs L na N d r i)] 200 143 [iL a xs,uR d] [iL s R,uR q] [] =some [0=0∧0+N≤L.length∧L.length < 1099511627776,a7 XW4 o1w (m5 XW4 200 143 [iL a xs,uR d] []) (.exit 0) (p0j a xs L na N d r i),Int.ofNat 0≤Int.ofNat xs.length∧Int.ofNat xs.length=Int.ofNat xs.length∧Int.ofNat (8*xs.length)≤Int.ofNat 281474976710656∧Int.ofNat xs.length≤Int.ofNat 9223372036854775807,Value.bool false=Value.bool s,(m3 (List.take N L)).length=R.length∧(m3 (List.take N L)).length≤L.length∧List.take (m3 (List.take N L)).length L=R,Value.int IntKind.u64 r=Value.int IntKind.u64 q] :=by kernel_rfl
theorem e1y (a:Bool) (xs:List Int) (d:Int) (x:AX) (s':St) (h:a7 XW4 o1w (p0j a xs (List.replicate xs.length 0) xs.length xs.length d 0 (IntKind.i64.wrap ((xs.length:Int)-1))) x s'):a7 XW4 o1w (m5 XW4 200 143 [iL a xs,uR d] []) x s':=
 f9 h [] (by kernel_rfl) (by kernel_rfl) (by kernel_rfl)
structure ISh where
 m:Nat
 r:Nat
 L:List Int
def p1t (xs:List Int) (d:Nat) (p:ISh):Prop:=
 p.m≤xs.length∧p.L.length=xs.length∧Dg W64 p.L∧val W64 (p.L.drop p.m)=val W64 (xs.drop p.m)/d∧p.r=val W64 (xs.drop p.m)%d
theorem a0s {n:Nat} (h:n < 1099511627776):IntKind.i64.wrap ((n:Int)-1)=(n:Int)-1:=by
 have:=IntKind.wrap_i64 ((n:Int)-1)
 omega
theorem drop_set {l:List Int} {m:Nat} (h:m < l.length) (x:Int):(l.set m x).drop m=x ::l.drop (m+1):=by
 rw [List.drop_eq_getElem_cons (by simpa using h)]
 congr 1
 ·simp
 ·apply List.ext_getElem?
  intro j
  rw [List.getElem?_drop,List.getElem?_drop,List.getElem?_set_ne (by omega)]
def shN (xs:List Int) (d:Nat) (p:ISh):ISh:=
 ⟨p.m-1,(p.r*18446744073709551616+(xs.getD (p.m-1) 0).toNat)%d,p.L.set (p.m-1) (((p.r*18446744073709551616+(xs.getD (p.m-1) 0).toNat)/d:Nat):Int)⟩
theorem o0k (a:Bool) {xs:List Int} (hx:Dg W64 xs) (hb:xs.length < 1099511627776) {d:Nat} (hd0:0 < d) (hd:d < W64):
  a7 XW4 o1w (p0j a xs (List.replicate xs.length 0) xs.length xs.length d 0 ((xs.length:Int)-1)) (.exit 0) (p0j a xs (itr (shN xs d) xs.length ⟨xs.length,0,List.replicate xs.length 0⟩).L xs.length xs.length d ((val W64 xs%d:Nat):Int) (-1))∧
  (itr (shN xs d) xs.length ⟨xs.length,0,List.replicate xs.length 0⟩).L.length=xs.length∧m3 (itr (shN xs d) xs.length ⟨xs.length,0,List.replicate xs.length 0⟩).L=ws W64 (val W64 xs/d):=by
 have hd':d < 18446744073709551616:=hd
 have step:∀ p:ISh,p1t xs d p→0 < p.m→p1t xs d (shN xs d p)∧o9 XW4 o1w (p0j a xs p.L xs.length xs.length d p.r ((p.m:Int)-1)) .normal (p0j a xs (shN xs d p).L xs.length xs.length d (shN xs d p).r (((shN xs d p).m:Int)-1)):=by
  intro p ⟨h1,h2,h3,h4,h5⟩ hm
  obtain⟨m,hmm⟩:∃ m,p.m=m+1:=⟨p.m-1,by omega⟩
  have hml:m < xs.length:=by omega
  have gx:=hx.get b9 m
  have hr:p.r < d:=by rw [h5]; exact Nat.mod_lt _ hd0
  have hW:((W64:Nat):Int)=18446744073709551616:=rfl
  rw [hW] at gx
  obtain⟨x,hxe⟩:∃ x:Nat,xs.getD m 0=(x:Int):=⟨(xs.getD m 0).toNat,by omega⟩
  have hxl:x < 18446744073709551616:=by omega
  have hq:(p.r*18446744073709551616+x)/d < 18446744073709551616:=by
   rw [Nat.div_lt_iff_lt_mul hd0]
   have:(p.r+1)*18446744073709551616≤d*18446744073709551616:=Nat.mul_le_mul_right _ hr
   rw [Nat.mul_comm 18446744073709551616]
   omega
  have e1:r1q p.r x d=(((p.r*18446744073709551616+x)/d:Nat):Int):=by unfold r1q; rw [Int.toNat_natCast,Int.toNat_natCast,Int.toNat_natCast]
  have e2:x1t p.r x d=(((p.r*18446744073709551616+x)%d:Nat):Int):=by unfold x1t; rw [Int.toNat_natCast,Int.toNat_natCast,Int.toNat_natCast]
  have hsh:shN xs d p=⟨m,(p.r*18446744073709551616+x)%d,p.L.set m (((p.r*18446744073709551616+x)/d:Nat):Int)⟩:=by
   unfold shN
   rw [hmm,Nat.add_sub_cancel,hxe,Int.toNat_natCast]
  rw [hsh]
  refine⟨⟨by simp only; omega,by simp [h2],h3.set ⟨Int.natCast_nonneg _,by exact_mod_cast hq⟩ _,?_,?_⟩,?_⟩
  ·simp only
   rw [drop_set (by omega),z6 (l:=xs) (m:=m) hml,hxe]
   simp only [val,Int.toNat_natCast]
   rw [hmm] at h4 h5
   rw [h4]
   have hdm:=Nat.div_add_mod (val W64 (xs.drop (m+1))) d
   rw [← h5] at hdm
   have:x+W64*val W64 (xs.drop (m+1))=(p.r*18446744073709551616+x)+d*(W64*(val W64 (xs.drop (m+1))/d)):=by
    rw [← hdm]
    have e:(d*(val W64 (xs.drop (m+1))/d)+p.r)/d=val W64 (xs.drop (m+1))/d:=by rw [Nat.mul_add_div hd0,Nat.div_eq_of_lt hr,Nat.add_zero]
    rw [e,Nat.mul_add,← Nat.mul_assoc,← Nat.mul_assoc,Nat.mul_comm W64 d,Nat.mul_comm W64 p.r]
    show _=p.r*W64+x+_
    omega
   rw [this,Nat.add_mul_div_left _ _ hd0]
  ·simp only
   rw [z6 (l:=xs) (m:=m) hml,hxe]
   simp only [val,Int.toNat_natCast]
   rw [hmm] at h5
   rw [h5]
   show (_*W64+x)%d=_
   rw [Nat.add_mod,Nat.mul_mod,Nat.mod_mod,← Nat.mul_mod,← Nat.add_mod,Nat.mul_comm W64,Nat.add_comm]
  ·have:=g1a a xs p.L xs.length xs.length d p.r (m:Int)
   rw [Int.toNat_natCast,hxe,e1,e2,a0s (by omega),y5] at this
   have e3:(p.m:Int)-1=(m:Int):=by omega
   rw [e3]
   have bnd:(Int.ofNat 0≤(m:Int)∧(m:Int) < Int.ofNat xs.length):=⟨by simp,by simpa using hml⟩
   have hz:xs.getD m (Int.ofNat 0)=(x:Int):=hxe
   refine this ⟨by omega,⟨bnd,by omega⟩,⟨⟨by simp,by exact_mod_cast hr⟩,⟨by rw [hz]; simp,by rw [hz]; simp only [Int.ofNat_eq_natCast]; omega⟩,by simp only [Int.ofNat_eq_natCast]; omega⟩,hml,⟨bnd,by omega⟩,by simp,trivial⟩
 have all:∀ k,k≤xs.length→p1t xs d (itr (shN xs d) k ⟨xs.length,0,List.replicate xs.length 0⟩)∧(itr (shN xs d) k ⟨xs.length,0,List.replicate xs.length 0⟩).m=xs.length-k:=by
  intro k
  induction k with
  | zero=>exact fun _=>⟨⟨Nat.le_refl _,by simp [itr],Dg.zeros _ b9 _,by simp [itr,val],by simp [itr,val]⟩,rfl⟩
  | succ k ih=>
   intro hk
   obtain⟨g1,g2⟩:=ih (by omega)
   refine⟨(step _ g1 (by rw [g2]; omega)).1,?_⟩
   show (itr (shN xs d) k _).m-1=_
   rw [g2]
   omega
 obtain⟨g1,g2⟩:=all xs.length (Nat.le_refl _)
 rw [Nat.sub_self] at g2
 have hout:=p1b a xs (itr (shN xs d) xs.length ⟨xs.length,0,List.replicate xs.length 0⟩).L xs.length xs.length d (itr (shN xs d) xs.length ⟨xs.length,0,List.replicate xs.length 0⟩).r (-1) ⟨by decide,trivial⟩
 have hrun:=v8 (fun k=>p0j a xs (itr (shN xs d) k ⟨xs.length,0,List.replicate xs.length 0⟩).L xs.length xs.length d (itr (shN xs d) k ⟨xs.length,0,List.replicate xs.length 0⟩).r (((itr (shN xs d) k ⟨xs.length,0,List.replicate xs.length 0⟩).m:Int)-1)) xs.length (x:= .exit 0) (by intro e; cases e) (fun k hk=>by
  obtain⟨q1,q2⟩:=all k (by omega)
  exact (step _ q1 (by rw [q2]; omega)).2) (by rw [g2]; exact hout)
 obtain⟨q1,q2,q3,q4,q5⟩:=g1
 rw [g2] at q4 q5
 simp only [List.drop_zero] at q4 q5
 rw [q5] at hrun
 refine⟨hrun,q2,?_⟩
 rw [G5 A3 q3,q4]
theorem z0t (a:Bool) {A d:Nat} (hA:wl A < 549755813888) (hd0:0 < d) (hd:d < W64):Ev.Sem Tryz.prog J0 143 [iN a A,uR d] [iN false (A/d),uR ((A%d:Nat):Int)] :=by
 have hA:(ws W64 A).length < 549755813888:=hA
 obtain⟨h1,h2,h3⟩:=o0k a (a0n A) (by omega) hd0 hd
 rw [t8] at h1 h3
 have hw:=a0s (n:=(ws W64 A).length) (by omega)
 rw [← hw] at h1
 obtain⟨q1,q2,q3⟩:=E3 h3
 have ht:List.take (ws W64 A).length (itr (shN (ws W64 A) d) (ws W64 A).length ⟨(ws W64 A).length,0,List.replicate (ws W64 A).length 0⟩).L=(itr (shN (ws W64 A) d) (ws W64 A).length ⟨(ws W64 A).length,0,List.replicate (ws W64 A).length 0⟩).L:=List.take_of_length_le (by rw [h2]; exact Nat.le_refl _)
 refine d9 O6 10 _ _ (m1e a false (ws W64 A) (itr (shN (ws W64 A) d) (ws W64 A).length ⟨(ws W64 A).length,0,List.replicate (ws W64 A).length 0⟩).L (ws W64 (A/d)) (ws W64 A).length (ws W64 A).length d ((A%d:Nat):Int) (-1) _) ?_
 rw [ht]
 have hi:=e1y a (ws W64 A) d _ _ h1
 refine⟨⟨rfl,by rw [h2]; omega,by rw [h2]; omega⟩,hi,⟨by simp,rfl,by simp only [Int.ofNat_eq_natCast]; omega,by simp only [Int.ofNat_eq_natCast]; omega⟩,rfl,⟨q1,q2,q3⟩,rfl,trivial⟩
noncomputable def r1u:Code:=A2 Tryz.prog 87 0
def c1e (a:Bool) (xs L:List Int) (na N:Nat) (n la i:Int):St:=⟨only 58 [(1, .int .i64 n),(2, .pointer (some ⟨13,0,none⟩)),(4, .pointer (some ⟨14,0,none⟩)),(5,slV 15 N),(17,slV 11 na),(18, .int .i64 la),(19, .int .i64 i)],
 [(15, .row T8 1 (.ints .u64 L) 16),(14, .cells [.bool false, .slice none 0 0] kW),(13, .cells [.bool a,slV 11 na] kW),(11, .ints .u64 xs)],17,[],[],0,none,[],13⟩
def aM (n:Int):Int:=IntKind.i64.wrap (n.tdiv 64)
def j0p (i n:Int):Int:=IntKind.i64.wrap (i+aM n)
def m0a (i n:Int):Int:=IntKind.i64.wrap (j0p i n+1)
def p1r (w n:Int):Int:=IntKind.u64.wrap (w*2 ^min (n.tmod 64).toNat 64)
def q1n (w n:Int):Int:=(w.fdiv (2 ^min (Int.toNat 1) 64)).fdiv (2 ^min (IntKind.i64.wrap (63-n.tmod 64)).toNat 64)
noncomputable def d0p (xs L:List Int) (n i:Int):List Int:=bM L (j0p i n).toNat (bits .or .u64 (L.getD (j0p i n).toNat 0) (p1r (xs.getD i.toNat 0) n))
noncomputable def u1c (xs L:List Int) (n i:Int):List Int:=bM (d0p xs L n i) (m0a i n).toNat (bits .or .u64 ((d0p xs L n i).getD (m0a i n).toNat 0) (q1n (xs.getD i.toNat 0) n))
section
variable (a:Bool) (xs L:List Int) (na N:Nat) (n la i:Int)
theorem f1e (hJ:((m0a i n).toNat < (d0p xs L n i).length)∧((0:Int)≤m0a i n∧m0a i n < N)∧0 < (d0p xs L n i).length) (h63:0≤IntKind.i64.wrap (63-n.tmod 64)) (hI:((j0p i n).toNat < L.length)∧((0:Int)≤j0p i n∧j0p i n < N)∧0 < L.length) (h64:0≤n.tmod 64)
  (hx:i.toNat < xs.length∧((0:Int)≤i∧i < na)∧0 < xs.length) (h0:decide (i < la)=true):o9 XW4 r1u (c1e a xs L na N n la i) .normal (c1e a xs (u1c xs L n i) na N n la (IntKind.i64.wrap (i+1))):=
 b7 (Base.cx_ok O6 10).1 progOk.mixed [] 200 [true] [] (l:=[(m0a i n).toNat < (d0p xs L n i).length,((0:Int)≤m0a i n∧m0a i n < N)∧0 < (d0p xs L n i).length,0≤IntKind.i64.wrap (63-n.tmod 64),(m0a i n).toNat < (d0p xs L n i).length,((0:Int)≤m0a i n∧m0a i n < N)∧0 < (d0p xs L n i).length,
  (j0p i n).toNat < L.length,((0:Int)≤j0p i n∧j0p i n < N)∧0 < L.length,0≤n.tmod 64,(j0p i n).toNat < L.length,((0:Int)≤j0p i n∧j0p i n < N)∧0 < L.length,i.toNat < xs.length,((0:Int)≤i∧i < na)∧0 < xs.length,decide (i < la)=true])
  (by kernel_rfl) ⟨hJ.1,hJ.2,h63,hJ.1,hJ.2,hI.1,hI.2,h64,hI.1,hI.2,hx.1,hx.2,h0,trivial⟩ (by kernel_rfl) (by kernel_rfl)
theorem o1l (h0:decide (i < la)=false):o9 XW4 r1u (c1e a xs L na N n la i) (.exit 0) (c1e a xs L na N n la i):=
 b7 (Base.cx_ok O6 10).1 progOk.mixed [] 200 [false] [] (l:=[decide (i < la)=false]) (by kernel_rfl) ⟨h0,trivial⟩ (by kernel_rfl) (by kernel_rfl)
end
theorem q1y (a s:Bool) (xs L R:List Int) (na N:Nat) (n m la i:Int):n8 XW4 [J5 (.exit 0) (fun _=>c1e a xs L na N n la i)] 200 87 [iL a xs,iR m] [iL s R] [] =some [0=0∧0+N≤L.length∧L.length < 1099511627776,a7 XW4 r1u (m5 XW4 200 87 [iL a xs,iR m] []) (.exit 0) (c1e a xs L na N n la i),Int.ofNat 0≤IntKind.i64.wrap (IntKind.i64.wrap (Int.ofNat xs.length+IntKind.i64.wrap (m.tdiv (Int.ofNat 64)))+Int.ofNat 1)∧IntKind.i64.wrap (IntKind.i64.wrap (Int.ofNat xs.length+IntKind.i64.wrap (m.tdiv (Int.ofNat 64)))+Int.ofNat 1)=IntKind.i64.wrap (IntKind.i64.wrap (Int.ofNat xs.length+IntKind.i64.wrap (m.tdiv (Int.ofNat 64)))+Int.ofNat 1)∧Int.ofNat 8*IntKind.i64.wrap (IntKind.i64.wrap (Int.ofNat xs.length+IntKind.i64.wrap (m.tdiv (Int.ofNat 64)))+Int.ofNat 1)≤Int.ofNat 281474976710656∧IntKind.i64.wrap (IntKind.i64.wrap (Int.ofNat xs.length+IntKind.i64.wrap (m.tdiv (Int.ofNat 64)))+Int.ofNat 1)≤Int.ofNat 9223372036854775807,Value.bool (a && decide (0 < (m3 (List.take N L)).length))=Value.bool s,(m3 (List.take N L)).length=R.length∧(m3 (List.take N L)).length≤L.length∧List.take (m3 (List.take N L)).length L=R] :=by kernel_rfl
theorem i1f (a:Bool) (xs:List Int) (n:Int) (x:AX) (s':St) (h:a7 XW4 r1u (c1e a xs (List.replicate (IntKind.i64.wrap (IntKind.i64.wrap ((xs.length:Int)+aM n)+1)).toNat 0) xs.length (IntKind.i64.wrap (IntKind.i64.wrap ((xs.length:Int)+aM n)+1)).toNat n xs.length 0) x s'):
  a7 XW4 r1u (m5 XW4 200 87 [iL a xs,iR n] []) x s':=
 f9 h [] (by kernel_rfl) (by kernel_rfl) (by kernel_rfl)
theorem i1a {w r low:Nat} (hw:w < W64) (hr:r < 64) (hl:low < 2 ^r):
  bits .or .u64 (low:Int) (p1r w ((r:Nat):Int))=((low+w*2 ^r%W64:Nat):Int)∧q1n w ((r:Nat):Int)=((w*2 ^r/W64:Nat):Int)∧w*2 ^r/W64 < 2 ^r∧low+w*2 ^r%W64 < W64:=by
 have hp:(2:Nat) ^64=W64:=by decide
 have hW:W64=18446744073709551616:=rfl
 have hw':w < 18446744073709551616:=hw
 have hrt:((r:Nat):Int).tmod 64=(r:Int):=by
  have:=(Int.ofNat_tmod r 64).symm
  rw [Nat.mod_eq_of_lt hr] at this
  exact this
 have hpr:=Nat.two_pow_pos r
 have hA:p1r w r=((w*2 ^r%W64:Nat):Int):=by
  unfold p1r
  rw [hrt,Int.toNat_natCast,Nat.min_eq_left (by omega),IntKind.wrap_u64]
  have:(w:Int)*2 ^r=((w*2 ^r:Nat):Int):=by rw [Int.natCast_mul,Int.natCast_pow]; rfl
  rw [this,hW]
  omega
 have hsplit:W64=2 ^(64-r)*2 ^r:=by rw [← Nat.pow_add,show 64-r+r=64 by omega,hp]
 have hhi:w*2 ^r/W64=w/2 ^(64-r):=by rw [hsplit,Nat.mul_div_mul_right _ _ hpr]
 have hB:q1n w r=((w*2 ^r/W64:Nat):Int):=by
  unfold q1n
  rw [hrt,hhi]
  have e1:IntKind.i64.wrap (63- (r:Int))=((63-r:Nat):Int):=by
   have:(63:Int)- (r:Int)=((63-r:Nat):Int):=by omega
   rw [this,m4 (by omega)]
  have e2:(w:Int).fdiv (2 ^min (Int.toNat 1) 64)=((w/2:Nat):Int):=by
   rw [show ((2:Int) ^min (Int.toNat 1) 64)=2 by decide,Int.fdiv_eq_ediv_of_nonneg _ (by omega)]
   omega
  rw [e2,e1,Int.toNat_natCast,Nat.min_eq_left (by omega)]
  rw [Int.fdiv_eq_ediv_of_nonneg _ (by
   have:(0:Int) < 2 ^(63-r):=Int.pow_pos (by decide)
   omega)]
  have e3:((w/2:Nat):Int)/2 ^(63-r)=((w/2/2 ^(63-r):Nat):Int):=by rw [Int.natCast_ediv (w/2),Int.natCast_pow]; rfl
  rw [e3,Nat.div_div_eq_div_mul,show 64-r=63-r+1 by omega,Nat.pow_succ,Nat.mul_comm (2 ^(63-r))]
 have hhl:w*2 ^r/W64 < 2 ^r:=by
  rw [Nat.div_lt_iff_lt_mul b9,Nat.mul_comm (2 ^r)]
  exact Nat.mul_lt_mul_of_pos_right hw hpr
 have hfree:w*2 ^r%W64=w%2 ^(64-r)*2 ^r:=by rw [hsplit,Nat.mul_mod_mul_right]
 have hlt:low+w*2 ^r%W64 < W64:=by
  rw [hfree]
  have:(w%2 ^(64-r)+1)*2 ^r≤2 ^(64-r)*2 ^r:=Nat.mul_le_mul_right _ (Nat.mod_lt _ (Nat.two_pow_pos _))
  rw [Nat.add_mul,Nat.one_mul,← hsplit] at this
  omega
 refine⟨?_,hB,hhl,hlt⟩
 rw [hA]
 have h1:low < 18446744073709551616:=by omega
 have h2:w*2 ^r%W64 < 18446744073709551616:=by omega
 rw [bits_or_u64_nat _ _ h1 h2,Nat.or_comm,hfree]
 have:=Nat.shiftLeft_add_eq_or_of_lt hl (w%2 ^(64-r))
 rw [Nat.shiftLeft_eq] at this
 rw [← this,Nat.add_comm]
def o1y (xs:List Int) (q r i:Nat) (L:List Int):Prop:=
 L.length=xs.length+q+1∧Dg W64 L∧(L.getD (i+q) 0).toNat < 2 ^r∧(∀ t,i+q+1≤t→L.getD t 0=0)∧val W64 L=val W64 xs%W64 ^i*2 ^r*W64 ^q
noncomputable def T5 (xs:List Int) (n:Nat):Nat→List Int
 | 0=>List.replicate (xs.length+n/64+1) 0
 | i+1=>u1c xs (T5 xs n i) n i
theorem vW {n:Nat} (hn:n < 1099511627776):aM n=((n/64:Nat):Int):=by
 unfold aM
 have:=(Int.ofNat_tdiv n 64).symm
 have e:((n:Nat):Int).tdiv 64=((n/64:Nat):Int):=this
 rw [e,m4 (by omega)]
theorem xZ {i n:Nat} (hn:n < 1099511627776) (hi:i < 1099511627776):j0p i n=((i+n/64:Nat):Int):=by
 unfold j0p
 rw [vW hn]
 have:=m4 (n:=i+n/64) (by omega)
 simpa using this
theorem i0y {i n:Nat} (hn:n < 1099511627776) (hi:i < 1099511627776):m0a i n=((i+n/64+1:Nat):Int):=by
 unfold m0a
 rw [xZ hn hi]
 have:=m4 (n:=i+n/64+1) (by omega)
 simpa using this
theorem M1 (n:Nat):((n:Nat):Int).tmod 64=((n%64:Nat):Int):=(Int.ofNat_tmod n 64).symm
theorem h1o (w:Int) (n:Nat):p1r w n=p1r w ((n%64:Nat):Int):=by unfold p1r; rw [M1,M1,Nat.mod_mod]
theorem f1b (w:Int) (n:Nat):q1n w n=q1n w ((n%64:Nat):Int):=by unfold q1n; rw [M1,M1,Nat.mod_mod]
theorem g0c {l:List Int} {i:Nat} (h:i < l.length) (x:Int):(l.set i x).getD i 0=x:=by
 rw [List.getD_eq_getElem?_getD,List.getElem?_set_self h]
 rfl
theorem tE {xs L:List Int} (hx:Dg W64 xs) {n i:Nat} (hn:n < 1099511627776) (hi:i < xs.length) (hb:xs.length < 549755813888) (h:o1y xs (n/64) (n%64) i L):o1y xs (n/64) (n%64) (i+1) (u1c xs L n i)∧(d0p xs L n i).length=L.length:=by
 obtain⟨h1,h2,h3,h4,h5⟩:=h
 have gx:=C3 b9 hx i
 have hwl:=U6 b9 (val W64 xs) i
 have gl:=h2.get b9 (i+n/64)
 obtain⟨low,hlow⟩:∃ low:Nat,L.getD (i+n/64) 0=(low:Int):=⟨(L.getD (i+n/64) 0).toNat,by omega⟩
 rw [hlow,Int.toNat_natCast] at h3
 obtain⟨e1,e2,e3,e4⟩:=i1a hwl (Nat.mod_lt n (by decide)) h3
 have hl1:d0p xs L n i=L.set (i+n/64) ((low+dig W64 (val W64 xs) i*2 ^(n%64)%W64:Nat):Int):=by
  unfold d0p
  rw [xZ hn (by omega),y5,Int.toNat_natCast,Int.toNat_natCast,hlow,gx,h1o,e1]
 have hlen1:(d0p xs L n i).length=L.length:=by rw [hl1,List.length_set]
 have hz:(d0p xs L n i).getD (i+n/64+1) 0=0:=by rw [hl1,getD_set_ne (by omega)]; exact h4 _ (Nat.le_refl _)
 have hhW:dig W64 (val W64 xs) i*2 ^(n%64)/W64 < 18446744073709551616:=by
  refine Nat.lt_of_lt_of_le e3 ?_
  have:2 ^(n%64)≤2 ^64:=Nat.pow_le_pow_right (by decide) (by omega)
  exact Nat.le_trans this (by decide)
 have hl2:u1c xs L n i=(d0p xs L n i).set (i+n/64+1) ((dig W64 (val W64 xs) i*2 ^(n%64)/W64:Nat):Int):=by
  unfold u1c
  rw [i0y hn (by omega),y5,Int.toNat_natCast,Int.toNat_natCast,hz,gx,f1b,e2]
  have:=bits_or_u64_nat 0 (dig W64 (val W64 xs) i*2 ^(n%64)/W64) (by decide) hhW
  rw [Nat.zero_or] at this
  congr 1
 have hD1:Dg W64 (d0p xs L n i):=by rw [hl1]; exact h2.set ⟨Int.natCast_nonneg _,by exact_mod_cast e4⟩ _
 refine⟨⟨by rw [hl2,List.length_set,hlen1,h1],by rw [hl2]; exact hD1.set ⟨Int.natCast_nonneg _,by exact_mod_cast hhW⟩ _,?_,fun t ht=> ?_,?_⟩,hlen1⟩
 ·rw [hl2,show i+1+n/64=i+n/64+1 by omega,g0c (by rw [hlen1]; omega),Int.toNat_natCast]
  exact e3
 ·rw [hl2,getD_set_ne (by omega),hl1,getD_set_ne (by omega)]
  exact h4 t (by omega)
 ·have v1:=V0 (b:=W64) (((low+dig W64 (val W64 xs) i*2 ^(n%64)%W64:Nat):Int)) (show i+n/64 < L.length by omega)
  rw [← hl1,hlow,Int.toNat_natCast,Int.toNat_natCast,Nat.add_mul] at v1
  have v2:=V0 (b:=W64) (((dig W64 (val W64 xs) i*2 ^(n%64)/W64:Nat):Int)) (show i+n/64+1 < (d0p xs L n i).length by omega)
  rw [← hl2,hz,Int.toNat_natCast] at v2
  simp only [Int.toNat_zero,Nat.zero_mul,Nat.add_zero] at v2
  rw [v2,bC]
  have e5:dig W64 (val W64 xs) i*2 ^(n%64)%W64*W64 ^(i+n/64)+dig W64 (val W64 xs) i*2 ^(n%64)/W64*W64 ^(i+n/64+1)=dig W64 (val W64 xs) i*2 ^(n%64)*W64 ^(i+n/64):=by
   rw [Nat.pow_succ,← Nat.mul_assoc,Nat.mul_right_comm,← Nat.add_mul]
   congr 1
   have:=Nat.mod_add_div (dig W64 (val W64 xs) i*2 ^(n%64)) W64
   rw [Nat.mul_comm W64] at this
   exact this
  have e6:(val W64 xs%W64 ^i+dig W64 (val W64 xs) i*W64 ^i)*2 ^(n%64)*W64 ^(n/64)=val W64 xs%W64 ^i*2 ^(n%64)*W64 ^(n/64)+dig W64 (val W64 xs) i*2 ^(n%64)*W64 ^(i+n/64):=by
   rw [Nat.add_mul,Nat.add_mul,Nat.pow_add]
   congr 1
   rw [Nat.mul_right_comm (dig W64 (val W64 xs) i),Nat.mul_assoc]
  rw [e6,← h5]
  omega
theorem nG {xs:List Int} (hx:Dg W64 xs) {n:Nat} (hn:n < 1099511627776) (hb:xs.length < 549755813888):∀ i,i≤xs.length→o1y xs (n/64) (n%64) i (T5 xs n i)
 | 0,_=>⟨by simp [T5],Dg.zeros _ b9 _,by
   show ((List.replicate _ (0:Int)).getD _ 0).toNat < _
   rw [P7]
   exact Nat.two_pow_pos _,fun t _=>P7 _ _,by simp [T5,Q2,Nat.mod_one]⟩
 | i+1,hi=>(tE hx hn (by omega) hb (nG hx hn hb i (by omega))).1
theorem i1w (a:Bool) {A n:Nat} (hA:wl A < 549755813888) (hn:n < 549755813888):Ev.Sem Tryz.prog J0 87 [iN a A,iR (n:Int)] [iN (a && decide (0 < A*2 ^n)) (A*2 ^n)] :=by
 have hA:(ws W64 A).length < 549755813888:=hA
 have hx:=a0n A
 have vA:=t8 A
 have hpow:2 ^(n%64)*W64 ^(n/64)=2 ^n:=by
  have:W64=2 ^64:=by decide
  rw [this,← Nat.pow_mul,← Nat.pow_add,Nat.mod_add_div]
 have hR:m3 (T5 (ws W64 A) n (ws W64 A).length)=ws W64 (A*2 ^n)∧(T5 (ws W64 A) n (ws W64 A).length).length=(ws W64 A).length+n/64+1:=by
  obtain⟨h1,h2,h3,h4,h5⟩:=nG hx (n:=n) (by omega) hA (ws W64 A).length (Nat.le_refl _)
  refine⟨?_,h1⟩
  rw [G5 A3 h2,h5,Nat.mod_eq_of_lt (I3 b9 hx),vA,Nat.mul_assoc,hpow]
 have hQ:=vW (n:=n) (by omega)
 have hN:IntKind.i64.wrap (IntKind.i64.wrap (((ws W64 A).length:Int)+aM n)+1)=(((ws W64 A).length+n/64+1:Nat):Int):=by
  rw [hQ]
  have e1:((ws W64 A).length:Int)+((n/64:Nat):Int)=(((ws W64 A).length+n/64:Nat):Int):=by omega
  rw [e1,m4 (by omega)]
  have e2:(((ws W64 A).length+n/64:Nat):Int)+1=(((ws W64 A).length+n/64+1:Nat):Int):=by omega
  rw [e2,m4 (by omega)]
 have hL:a7 XW4 r1u (c1e a (ws W64 A) (List.replicate ((ws W64 A).length+n/64+1) 0) (ws W64 A).length ((ws W64 A).length+n/64+1) n (ws W64 A).length 0) (.exit 0)
   (c1e a (ws W64 A) (T5 (ws W64 A) n (ws W64 A).length) (ws W64 A).length ((ws W64 A).length+n/64+1) n (ws W64 A).length (ws W64 A).length):=by
  generalize ws W64 A=xs at*
  refine v8 (fun k=>c1e a xs (T5 xs n k) xs.length (xs.length+n/64+1) n xs.length k) xs.length (by intro e; cases e) (fun k hk=> ?_) (o1l a xs _ xs.length (xs.length+n/64+1) n xs.length xs.length (by simp))
  have hg:=nG hx (n:=n) (by omega) hA k (by omega)
  obtain⟨_,hl1⟩:=tE hx (by omega) hk hA hg
  have hlen:=hg.1
  have:=f1e a xs (T5 xs n k) xs.length (xs.length+n/64+1) n xs.length k
  rw [xZ (by omega) (by omega),i0y (by omega) (by omega),M1,C0 (n:=k) (by omega),hl1] at this
  have h63:(0:Int)≤IntKind.i64.wrap (63- ((n%64:Nat):Int)):=by
   have e:(63:Int)- ((n%64:Nat):Int)=((63-n%64:Nat):Int):=by omega
   rw [e,m4 (by omega)]
   omega
  exact this ⟨by rw [Int.toNat_natCast]; omega,⟨by omega,by omega⟩,by omega⟩ h63 ⟨by rw [Int.toNat_natCast]; omega,⟨by omega,by omega⟩,by omega⟩ (by omega) ⟨by simpa using hk,⟨by omega,by omega⟩,by omega⟩ (by simpa using hk)
 have hN':IntKind.i64.wrap (IntKind.i64.wrap (Int.ofNat (ws W64 A).length+IntKind.i64.wrap ((n:Int).tdiv (Int.ofNat 64)))+Int.ofNat 1)=(((ws W64 A).length+n/64+1:Nat):Int):=hN
 obtain⟨q1,q2,q3⟩:=E3 hR.1
 have ht:List.take ((ws W64 A).length+n/64+1) (T5 (ws W64 A) n (ws W64 A).length)=T5 (ws W64 A) n (ws W64 A).length:=List.take_of_length_le (by rw [hR.2]; exact Nat.le_refl _)
 refine d9 O6 10 _ _ (q1y a _ (ws W64 A) (T5 (ws W64 A) n (ws W64 A).length) (ws W64 (A*2 ^n)) (ws W64 A).length ((ws W64 A).length+n/64+1) n n (ws W64 A).length (ws W64 A).length) ?_
 rw [ht,hN']
 refine⟨⟨rfl,by rw [hR.2]; omega,by rw [hR.2]; omega⟩,i1f a _ n _ _ (by rw [hN]; exact hL),⟨by simp only [Int.ofNat_eq_natCast]; omega,rfl,by simp only [Int.ofNat_eq_natCast]; omega,by simp only [Int.ofNat_eq_natCast]; omega⟩,?_,⟨q1,q2,q3⟩,trivial⟩
 rw [hR.1]
 have:=wl_pos (m:=A*2 ^n)
 congr 2
 simp only [decide_eq_decide]
 exact this
noncomputable def c1f:Code:=A2 Tryz.prog 199 0
def d0x (a:Bool) (xs L:List Int) (na N:Nat) (n i:Int):St:=⟨only 52 [(1, .int .i64 n),(2, .pointer (some ⟨13,0,none⟩)),(4, .pointer (some ⟨14,0,none⟩)),(5,slV 15 N),(6, .int .i64 i)],
 [(15, .row T8 1 (.ints .u64 L) 16),(14, .cells [.bool false, .slice none 0 0] kW),(13, .cells [.bool a,slV 11 na] kW),(11, .ints .u64 xs)],17,[],[],0,none,[],13⟩
def k1o (x n:Int):Int:=x.fdiv (2 ^min (n.tmod 64).toNat 64)
def x1r (y n:Int):Int:=IntKind.u64.wrap (IntKind.u64.wrap (y*2 ^min (Int.toNat 1) 64)*2 ^min (IntKind.i64.wrap (63-n.tmod 64)).toNat 64)
def y1o (xs:List Int) (n i:Int):Int:=bits .or .u64 (k1o (xs.getD i.toNat 0) n) (x1r (xs.getD (IntKind.i64.wrap (i+1)).toNat 0) n)
abbrev inX (xs:List Int) (na:Nat) (i:Int):Prop:=i.toNat < xs.length∧((0:Int)≤i∧i < na)∧0 < xs.length
noncomputable def r1x (a:Bool) (xs:List Int) (n:Int):St:=m5 XW4 200 199 [iL a xs,iR n] []
section
variable (a:Bool) (xs L:List Int) (na N:Nat) (n i:Int)
theorem d1m (hN:N*1=L.length∧(N+1)*8≤140737488355328∧N+1≤9223372036854775807) (h63:0≤IntKind.i64.wrap (63-n.tmod 64)) (h2:inX xs na (IntKind.i64.wrap (i+1))) (h3:decide (IntKind.i64.wrap (i+1) < na)=true) (h64:0≤n.tmod 64) (h1:inX xs na i) (h0:decide (i < na)=true):
  o9 XW4 c1f (d0x a xs L na N n i) .normal (d0x a xs (L++[y1o xs n i]) na (N+1) n (IntKind.i64.wrap (i+1))):=
 b7 (Base.cx_ok O6 10).1 progOk.mixed [] 200 [true,true] [(15,18),(16,19)] (l:=[N*1=L.length∧(N+1)*8≤140737488355328∧N+1≤9223372036854775807,0≤IntKind.i64.wrap (63-n.tmod 64),(IntKind.i64.wrap (i+1)).toNat < xs.length,((0:Int)≤IntKind.i64.wrap (i+1)∧IntKind.i64.wrap (i+1) < na)∧0 < xs.length,
  decide (IntKind.i64.wrap (i+1) < na)=true,0≤n.tmod 64,i.toNat < xs.length,((0:Int)≤i∧i < na)∧0 < xs.length,decide (i < na)=true]) (by kernel_rfl) ⟨hN,h63,h2.1,h2.2,h3,h64,h1.1,h1.2,h0,trivial⟩ (by kernel_rfl) (by kernel_rfl)
theorem p1g (hN:N*1=L.length∧(N+1)*8≤140737488355328∧N+1≤9223372036854775807) (h3:decide (IntKind.i64.wrap (i+1) < na)=false) (h64:0≤n.tmod 64) (h1:inX xs na i) (h0:decide (i < na)=true):
  o9 XW4 c1f (d0x a xs L na N n i) .normal (d0x a xs (L++[k1o (xs.getD i.toNat 0) n]) na (N+1) n (IntKind.i64.wrap (i+1))):=
 b7 (Base.cx_ok O6 10).1 progOk.mixed [] 200 [true,false] [(15,18),(16,19)] (l:=[N*1=L.length∧(N+1)*8≤140737488355328∧N+1≤9223372036854775807,decide (IntKind.i64.wrap (i+1) < na)=false,0≤n.tmod 64,i.toNat < xs.length,((0:Int)≤i∧i < na)∧0 < xs.length,decide (i < na)=true])
  (by kernel_rfl) ⟨hN,h3,h64,h1.1,h1.2,h0,trivial⟩ (by kernel_rfl) (by kernel_rfl)
theorem m1h (h0:decide (i < na)=false):o9 XW4 c1f (d0x a xs L na N n i) (.exit 0) (d0x a xs L na N n i):=
 b7 (Base.cx_ok O6 10).1 progOk.mixed [] 200 [false] [] (l:=[decide (i < na)=false]) (by kernel_rfl) ⟨h0,trivial⟩ (by kernel_rfl) (by kernel_rfl)
theorem n0p (h63:0≤IntKind.i64.wrap (63-n.tmod 64)) (h2:inX xs xs.length (IntKind.i64.wrap (aM n+1))) (h3:decide (IntKind.i64.wrap (aM n+1) < xs.length)=true) (h64:0≤n.tmod 64) (h1:inX xs xs.length (aM n)) (h0:decide (aM n < xs.length)=true):
  o9 XW4 c1f (r1x a xs n) .normal (d0x a xs [y1o xs n (aM n)] xs.length 1 n (IntKind.i64.wrap (aM n+1))):=
 b7 (Base.cx_ok O6 10).1 progOk.mixed [] 200 [true,true] [(15,16),(16,17)] (l:=[8≤140737488355328∧1≤9223372036854775807,0≤IntKind.i64.wrap (63-n.tmod 64),(IntKind.i64.wrap (aM n+1)).toNat < xs.length,((0:Int)≤IntKind.i64.wrap (aM n+1)∧IntKind.i64.wrap (aM n+1) < xs.length)∧0 < xs.length,
  decide (IntKind.i64.wrap (aM n+1) < xs.length)=true,0≤n.tmod 64,(aM n).toNat < xs.length,((0:Int)≤aM n∧aM n < xs.length)∧0 < xs.length,decide (aM n < xs.length)=true]) (by kernel_rfl) ⟨by omega,h63,h2.1,h2.2,h3,h64,h1.1,h1.2,h0,trivial⟩ (by kernel_rfl) (by kernel_rfl)
theorem n0d (h3:decide (IntKind.i64.wrap (aM n+1) < xs.length)=false) (h64:0≤n.tmod 64) (h1:inX xs xs.length (aM n)) (h0:decide (aM n < xs.length)=true):
  o9 XW4 c1f (r1x a xs n) .normal (d0x a xs [k1o (xs.getD (aM n).toNat 0) n] xs.length 1 n (IntKind.i64.wrap (aM n+1))):=
 b7 (Base.cx_ok O6 10).1 progOk.mixed [] 200 [true,false] [(15,16),(16,17)] (l:=[8≤140737488355328∧1≤9223372036854775807,decide (IntKind.i64.wrap (aM n+1) < xs.length)=false,0≤n.tmod 64,(aM n).toNat < xs.length,((0:Int)≤aM n∧aM n < xs.length)∧0 < xs.length,decide (aM n < xs.length)=true])
  (by kernel_rfl) ⟨by omega,h3,h64,h1.1,h1.2,h0,trivial⟩ (by kernel_rfl) (by kernel_rfl)
end
theorem m1u (a s:Bool) (xs L R:List Int) (na N:Nat) (n m i:Int):n8 XW4 [J5 (.exit 0) (fun _=>d0x a xs L na N n i)] 200 199 [iL a xs,iR m] [iL s R] [] =some [0=0∧0+N≤L.length∧L.length < 1099511627776,a7 XW4 c1f (r1x a xs m) (.exit 0) (d0x a xs L na N n i),Value.bool (a && decide (0 < (m3 (List.take N L)).length))=Value.bool s,(m3 (List.take N L)).length=R.length∧(m3 (List.take N L)).length≤L.length∧List.take (m3 (List.take N L)).length L=R] :=by kernel_rfl
theorem f1a (a s:Bool) (xs R:List Int) (m:Int):n8 XW4 [] 200 199 [iL a xs,iR m] [iL s R] [false] =some [decide (IntKind.i64.wrap (m.tdiv (Int.ofNat 64)) < Int.ofNat xs.length)=false,Value.bool false=Value.bool s,R=[]] :=by kernel_rfl
theorem g1k {A r k:Nat} (hr:r < 64):k1o (dig W64 A k) ((r:Nat):Int)=((dig W64 A k/2 ^r:Nat):Int)∧bits .or .u64 (k1o (dig W64 A k) ((r:Nat):Int)) (x1r (dig W64 A (k+1)) ((r:Nat):Int))=(dig W64 (A/2 ^r) k:Int)∧
  (dig W64 A (k+1)=0→dig W64 A k/2 ^r=dig W64 (A/2 ^r) k):=by
 have hp:(2:Nat) ^64=W64:=by decide
 have hx:=U6 b9 A k
 have hy:=U6 b9 A (k+1)
 have hrt:((r:Nat):Int).tmod 64=(r:Int):=by
  have:=M1 r
  rw [Nat.mod_eq_of_lt hr] at this
  exact this
 have hpr:=Nat.two_pow_pos r
 have hsplit:W64=2 ^r*2 ^(64-r):=by rw [← Nat.pow_add,show r+(64-r)=64 by omega,hp]
 have hA:∀ x:Nat,k1o x r=((x/2 ^r:Nat):Int):=fun x=>by
  unfold k1o
  rw [hrt,Int.toNat_natCast,Nat.min_eq_left (by omega),Int.fdiv_eq_ediv_of_nonneg _ (by
   have:(0:Int) < 2 ^r:=Int.pow_pos (by decide)
   omega),Int.natCast_ediv,Int.natCast_pow]
  rfl
 have hB:∀ y:Nat,y < W64→x1r y r=((y*2 ^(64-r)%W64:Nat):Int):=fun y hy=>by
  unfold x1r
  rw [hrt]
  have e1:IntKind.i64.wrap (63- (r:Int))=((63-r:Nat):Int):=by
   have:(63:Int)- (r:Int)=((63-r:Nat):Int):=by omega
   rw [this,m4 (by omega)]
  have e2:IntKind.u64.wrap ((y:Int)*2 ^min (Int.toNat 1) 64)=((y*2%W64:Nat):Int):=by
   rw [show ((2:Int) ^min (Int.toNat 1) 64)=2 by decide,IntKind.wrap_u64]
   show _=((y*2%18446744073709551616:Nat):Int)
   omega
  rw [e2,e1,Int.toNat_natCast,Nat.min_eq_left (by omega),IntKind.wrap_u64]
  have e3:((y*2%W64:Nat):Int)*2 ^(63-r)=((y*2%W64*2 ^(63-r):Nat):Int):=by rw [Int.natCast_mul,Int.natCast_pow]; rfl
  rw [e3]
  have e4:y*2%W64*2 ^(63-r)%W64=y*2 ^(64-r)%W64:=by
   rw [Nat.mod_mul_mod,Nat.mul_assoc,← Nat.pow_succ',show (63-r).succ=64-r by omega]
  rw [← e4]
  show _=((_%18446744073709551616:Nat):Int)
  omega
 have hdig:dig W64 (A/2 ^r) k=dig W64 A k/2 ^r+dig W64 A (k+1)*2 ^(64-r)%W64:=by
  have hlow:dig W64 A k/2 ^r < 2 ^(64-r):=by
   rw [Nat.div_lt_iff_lt_mul hpr,Nat.mul_comm,← hsplit]
   exact hx
  have hm:dig W64 A (k+1)*2 ^(64-r)%W64=dig W64 A (k+1)%2 ^r*2 ^(64-r):=by rw [hsplit,Nat.mul_mod_mul_right]
  have hlt:dig W64 A k/2 ^r+dig W64 A (k+1)*2 ^(64-r)%W64 < W64:=by
   rw [hm]
   have:(dig W64 A (k+1)%2 ^r+1)*2 ^(64-r)≤2 ^r*2 ^(64-r):=Nat.mul_le_mul_right _ (Nat.mod_lt _ hpr)
   rw [Nat.add_mul,Nat.one_mul,← hsplit] at this
   omega
  have e1:A/2 ^r/W64 ^k=(dig W64 A k+W64*(A/W64 ^(k+1)))/2 ^r:=by
   rw [← m1f,Nat.div_div_eq_div_mul,Nat.div_div_eq_div_mul,Nat.mul_comm]
  have e2:(dig W64 A k+W64*(A/W64 ^(k+1)))/2 ^r=dig W64 A k/2 ^r+2 ^(64-r)*(A/W64 ^(k+1)):=by
   rw [hsplit,Nat.mul_assoc,Nat.add_mul_div_left _ _ hpr]
  have e3:2 ^(64-r)*(A/W64 ^(k+1))%W64=dig W64 A (k+1)*2 ^(64-r)%W64:=by
   unfold dig
   rw [Nat.mod_mul_mod,Nat.mul_comm]
  show A/2 ^r/W64 ^k%W64=_
  rw [e1,e2,Nat.add_mod,e3,Nat.mod_eq_of_lt (show dig W64 A k/2 ^r < W64 from Nat.lt_of_le_of_lt (Nat.div_le_self _ _) hx),Nat.mod_eq_of_lt hlt]
 refine⟨hA _,?_,fun h0=>by rw [hdig,h0]; simp⟩
 have hlow:dig W64 A k/2 ^r < 2 ^(64-r):=by
  rw [Nat.div_lt_iff_lt_mul hpr,Nat.mul_comm,← hsplit]
  exact hx
 have hm:dig W64 A (k+1)*2 ^(64-r)%W64=dig W64 A (k+1)%2 ^r*2 ^(64-r):=by rw [hsplit,Nat.mul_mod_mul_right]
 have b1:dig W64 A k/2 ^r < 18446744073709551616:=Nat.lt_of_le_of_lt (Nat.div_le_self _ _) hx
 have b2:dig W64 A (k+1)*2 ^(64-r)%W64 < 18446744073709551616:=Nat.mod_lt _ b9
 rw [hA,hB _ hy,bits_or_u64_nat _ _ b1 b2,hdig,Nat.or_comm,hm]
 have:=Nat.shiftLeft_add_eq_or_of_lt hlow (dig W64 A (k+1)%2 ^r)
 rw [Nat.shiftLeft_eq] at this
 rw [← this,Nat.add_comm]
theorem n1j {n m i:Nat} (h:m < W64 ^n):(dl W64 n m).getD i 0=(dig W64 m i:Int):=by
 rw [C3 b9 (y0o b9 n m),b0o,Nat.mod_eq_of_lt h]
theorem t0v (a:Bool) {A n:Nat} (hA:wl A < 549755813888) (hn:n < 64):Ev.Sem Tryz.prog J0 199 [iN a A,iR (n:Int)] [iN (a && decide (0 < A/2 ^n)) (A/2 ^n)] :=by
 have hA:(ws W64 A).length < 549755813888:=hA
 have hQ:aM (n:Int)=0:=by
  rw [vW (by omega)]
  omega
 have hlt:A/2 ^n < W64 ^(ws W64 A).length:=Nat.lt_of_le_of_lt (Nat.div_le_self _ _) (g0n A)
 by_cases h0:A=0
 ·subst h0
  refine d9 O6 10 _ _ (f1a a _ (ws W64 0) (ws W64 (0/2 ^n)) n) ⟨?_,?_,?_,trivial⟩
  ·show decide (aM n < (0:Int))=false
   rw [hQ]
   rfl
  ·simp
  ·rw [Nat.zero_div,wE]
 have hpos:0 < (ws W64 A).length:=wl_pos.2 (by omega)
 have h64:(0:Int)≤((n:Nat):Int).tmod 64:=by rw [M1]; omega
 have h63:(0:Int)≤IntKind.i64.wrap (63- ((n:Nat):Int).tmod 64):=by
  rw [M1]
  have e:(63:Int)- ((n%64:Nat):Int)=((63-n%64:Nat):Int):=by omega
  rw [e,m4 (by omega)]
  omega
 have hget:∀ i,(ws W64 A).getD i 0=(dig W64 A i:Int):=fun i=>b1j A3 A i
 have hlast:∀ i,(ws W64 A).length≤i→dig W64 A i=0:=fun i hi=>by
  have:=hget i
  rw [S6 hi] at this
  omega
 have word:∀ k,k < (ws W64 A).length→(k+1 < (ws W64 A).length→y1o (ws W64 A) n k=(dig W64 (A/2 ^n) k:Int))∧(¬ k+1 < (ws W64 A).length→k1o ((ws W64 A).getD k 0) n=(dig W64 (A/2 ^n) k:Int)):=by
  intro k hk
  obtain⟨w1,w2,w3⟩:=g1k (A:=A) (r:=n) (k:=k) hn
  refine⟨fun h=> ?_,fun h=> ?_⟩
  ·unfold y1o
   rw [C0 (by omega),Int.toNat_natCast,Int.toNat_natCast,hget,hget]
   exact w2
  ·rw [hget,w1,w3 (hlast _ (by omega))]
 have T:∀ k,k < (ws W64 A).length→(dl W64 (ws W64 A).length (A/2 ^n)).take (k+1)=(dl W64 (ws W64 A).length (A/2 ^n)).take k++[(dig W64 (A/2 ^n) k:Int)] :=fun k hk=>by
  rw [mV (by rw [m9]; exact hk),n1j hlt]
 have inx:∀ k:Nat,k < (ws W64 A).length→inX (ws W64 A) (ws W64 A).length (k:Int):=fun k hk=>⟨by simpa using hk,⟨by omega,by omega⟩,hpos⟩
 have step:∀ k,0 < k→k < (ws W64 A).length→o9 XW4 c1f (d0x a (ws W64 A) ((dl W64 (ws W64 A).length (A/2 ^n)).take k) (ws W64 A).length k n k) .normal (d0x a (ws W64 A) ((dl W64 (ws W64 A).length (A/2 ^n)).take (k+1)) (ws W64 A).length (k+1) n ((k+1:Nat):Int)):=by
  intro k _ hk
  have hlen:k*1=((dl W64 (ws W64 A).length (A/2 ^n)).take k).length:=by rw [List.length_take,m9]; omega
  have hw:=C0 (n:=k) (by omega)
  rw [T k hk]
  by_cases h2:k+1 < (ws W64 A).length
  ·have:=d1m a (ws W64 A) ((dl W64 (ws W64 A).length (A/2 ^n)).take k) (ws W64 A).length k n k ⟨hlen,by omega,by omega⟩ h63 (by rw [hw]; exact inx _ h2) (by rw [hw]; simp only [decide_eq_true_eq]; omega) h64 (inx k hk) (by simpa using hk)
   rw [hw,(word k hk).1 h2] at this
   exact this
  ·have:=p1g a (ws W64 A) ((dl W64 (ws W64 A).length (A/2 ^n)).take k) (ws W64 A).length k n k ⟨hlen,by omega,by omega⟩ (by rw [hw]; simp only [decide_eq_false_iff_not]; omega) h64 (inx k hk) (by simpa using hk)
   rw [hw,Int.toNat_natCast,(word k hk).2 h2] at this
   exact this
 have first:o9 XW4 c1f (r1x a (ws W64 A) n) .normal (d0x a (ws W64 A) ((dl W64 (ws W64 A).length (A/2 ^n)).take 1) (ws W64 A).length 1 n 1):=by
  have t1:=T 0 hpos
  rw [List.take_zero,List.nil_append] at t1
  rw [t1]
  have hw:IntKind.i64.wrap (0+1)=1:=by decide
  by_cases h2:0+1 < (ws W64 A).length
  ·have:=n0p a (ws W64 A) n h63
   rw [hQ,hw] at this
   have w:=(word 0 hpos).1 h2
   have e0:((0:Nat):Int)=0:=rfl
   rw [e0] at w
   rw [w] at this
   exact this (inx 1 h2) (by simp only [decide_eq_true_eq]; omega) h64 (inx 0 hpos) (by simp only [decide_eq_true_eq]; omega)
  ·have:=n0d a (ws W64 A) n
   rw [hQ,hw] at this
   have w:=(word 0 hpos).2 h2
   have e0:(0:Int).toNat=0:=rfl
   rw [e0,w] at this
   exact this (by simp only [decide_eq_false_iff_not]; omega) h64 (inx 0 hpos) (by simp only [decide_eq_true_eq]; omega)
 have hL:a7 XW4 c1f (r1x a (ws W64 A) n) (.exit 0) (d0x a (ws W64 A) (dl W64 (ws W64 A).length (A/2 ^n)) (ws W64 A).length (ws W64 A).length n (ws W64 A).length):=by
  have hend:(dl W64 (ws W64 A).length (A/2 ^n)).take (ws W64 A).length=dl W64 (ws W64 A).length (A/2 ^n):=List.take_of_length_le (by rw [m9]; exact Nat.le_refl _)
  have:=v8 (X:=XW4) (c:=c1f) (fun k=>match k with
    | 0=>r1x a (ws W64 A) n
    | k+1=>d0x a (ws W64 A) ((dl W64 (ws W64 A).length (A/2 ^n)).take (k+1)) (ws W64 A).length (k+1) n ((k+1:Nat):Int)) (ws W64 A).length (x:= .exit 0) (by intro e; cases e) (s':=d0x a (ws W64 A) (dl W64 (ws W64 A).length (A/2 ^n)) (ws W64 A).length (ws W64 A).length n (ws W64 A).length) (fun k hk=> ?_) ?_
  ·exact this
  ·cases k with
   | zero=>exact first
   | succ k=>exact step (k+1) (by omega) hk
  ·obtain⟨m,hm⟩:∃ m,(ws W64 A).length=m+1:=⟨(ws W64 A).length-1,by omega⟩
   have:=m1h a (ws W64 A) (dl W64 (ws W64 A).length (A/2 ^n)) (ws W64 A).length (ws W64 A).length n (ws W64 A).length (by simp)
   rw [hm] at this hend ⊢
   simp only
   rw [hend]
   exact this
 obtain⟨q1,q2,q3⟩:=E3 (wT hlt)
 have ht:List.take (ws W64 A).length (dl W64 (ws W64 A).length (A/2 ^n))=dl W64 (ws W64 A).length (A/2 ^n):=List.take_of_length_le (by rw [m9]; exact Nat.le_refl _)
 refine d9 O6 10 _ _ (m1u a _ (ws W64 A) (dl W64 (ws W64 A).length (A/2 ^n)) (ws W64 (A/2 ^n)) (ws W64 A).length (ws W64 A).length n n (ws W64 A).length) ?_
 rw [ht]
 refine⟨⟨rfl,by rw [m9]; omega,by rw [m9]; omega⟩,hL,?_,⟨q1,q2,q3⟩,trivial⟩
 rw [wT hlt]
 have:=wl_pos (m:=A/2 ^n)
 congr 2
 simp only [decide_eq_decide]
 exact this
abbrev wO (ys:List Int) (off n:Nat):Arg:= .c (.o .u64 ys off n)
def e0a (zs ys L:List Int) (off na nb N:Nat) (la c i:Int):St:=
 ⟨only 40 [(0, .slice (some ⟨11,off,some 12⟩) na 0),(1,slV 13 nb),(5,slV 15 N),(6, .int .u64 c),(12, .slice (some ⟨11,off,some 12⟩) na 0),(13, .int .i64 la),(14, .int .i64 i)],[(15, .row T8 1 (.ints .u64 L) 16),(11, .ints .u64 zs),(13, .ints .u64 ys)],17,[],[],0,none,[],15⟩
def kX (zs ys:List Int) (off na nb:Nat) (i:Int):St:=⟨only 43 [(0, .slice (some ⟨11,off,some 12⟩) na 0),(1,slV 13 nb),(5, .int .i64 i)],[(11, .ints .u64 zs),(13, .ints .u64 ys)],15,[],[],0,none,[],15⟩
def c1k (zs ys:List Int) (off na nb:Nat) (r:Int):St:=⟨only 43 [(0, .slice (some ⟨11,off,some 12⟩) na 0),(1,slV 13 nb),(4, .int .i64 r)],[(11, .ints .u64 zs),(13, .ints .u64 ys)],15,[],[],0,none,[],15⟩
theorem h1v (zs ys:List Int) (off n:Nat) (r:Int):n8 XW0 [] 200 197 [wO zs off n,wS ys] [.c (.v (.int .i64 r))] [true] =some [(Int.ofNat n !=Int.ofNat ys.length)=true,Value.int IntKind.i64 (IntKind.i64.wrap (Int.ofNat n-Int.ofNat ys.length))=Value.int IntKind.i64 r] :=by kernel_rfl
theorem i1d (zs ys:List Int) (off na nb n:Nat) (i r:Int):n8 XW0 [J5 (.exit 0) (fun _=>kX zs ys off na nb i)] 200 197 [wO zs off n,wS ys] [.c (.v (.int .i64 r))] [false] =some [a7 XW0 bF (m5 XW0 200 197 [wO zs off n,wS ys] [false]) (.exit 0) (kX zs ys off na nb i),(Int.ofNat n !=Int.ofNat ys.length)=false,Value.int IntKind.i64 (Int.ofNat 0)=Value.int IntKind.i64 r] :=by kernel_rfl
theorem k0e (zs ys:List Int) (off na nb n:Nat) (q r:Int):n8 XW0 [J5 .ret (fun _=>c1k zs ys off na nb q)] 200 197 [wO zs off n,wS ys] [.c (.v (.int .i64 r))] [false] =some [a7 XW0 bF (m5 XW0 200 197 [wO zs off n,wS ys] [false]) .ret (c1k zs ys off na nb q),(Int.ofNat n !=Int.ofNat ys.length)=false,Value.int IntKind.i64 q=Value.int IntKind.i64 r] :=by kernel_rfl
theorem f1s (zs ys:List Int) (off na nb:Nat) (i:Int) (hl:d5 [decide (zs.getD (n7 off (L6 i.toNat 1)) (Int.ofNat 0) < ys.getD i.toNat (Int.ofNat 0))=true,i.toNat < ys.length,(Int.ofNat 0≤i∧i < Int.ofNat nb)∧0 < ys.length,(n7 off (L6 i.toNat 1)) < zs.length,(Int.ofNat 0≤i∧i < Int.ofNat na)∧0 < zs.length,decide (Int.ofNat 0≤i)=true]):o9 XW0 bF (kX zs ys off na nb i) .ret (c1k zs ys off na nb (-1)):=
 b7 (Base.cx_ok s5 10).1 progOk.mixed [] 200 [true,true] [] (by kernel_rfl) hl (by kernel_rfl) (by kernel_rfl)
theorem c1v (zs ys:List Int) (off na nb:Nat) (i:Int) (hl:d5 [decide (ys.getD i.toNat (Int.ofNat 0) < zs.getD (n7 off (L6 i.toNat 1)) (Int.ofNat 0))=true,i.toNat < ys.length,(Int.ofNat 0≤i∧i < Int.ofNat nb)∧0 < ys.length,(n7 off (L6 i.toNat 1)) < zs.length,(Int.ofNat 0≤i∧i < Int.ofNat na)∧0 < zs.length,decide (zs.getD (n7 off (L6 i.toNat 1)) (Int.ofNat 0) < ys.getD i.toNat (Int.ofNat 0))=false,i.toNat < ys.length,(Int.ofNat 0≤i∧i < Int.ofNat nb)∧0 < ys.length,(n7 off (L6 i.toNat 1)) < zs.length,(Int.ofNat 0≤i∧i < Int.ofNat na)∧0 < zs.length,decide (Int.ofNat 0≤i)=true]):o9 XW0 bF (kX zs ys off na nb i) .ret (c1k zs ys off na nb 1):=
 b7 (Base.cx_ok s5 10).1 progOk.mixed [] 200 [true,false,true] [] (by kernel_rfl) hl (by kernel_rfl) (by kernel_rfl)
theorem e1r (zs ys:List Int) (off na nb:Nat) (i:Int) (hl:d5 [decide (ys.getD i.toNat (Int.ofNat 0) < zs.getD (n7 off (L6 i.toNat 1)) (Int.ofNat 0))=false,i.toNat < ys.length,(Int.ofNat 0≤i∧i < Int.ofNat nb)∧0 < ys.length,(n7 off (L6 i.toNat 1)) < zs.length,(Int.ofNat 0≤i∧i < Int.ofNat na)∧0 < zs.length,decide (zs.getD (n7 off (L6 i.toNat 1)) (Int.ofNat 0) < ys.getD i.toNat (Int.ofNat 0))=false,i.toNat < ys.length,(Int.ofNat 0≤i∧i < Int.ofNat nb)∧0 < ys.length,(n7 off (L6 i.toNat 1)) < zs.length,(Int.ofNat 0≤i∧i < Int.ofNat na)∧0 < zs.length,decide (Int.ofNat 0≤i)=true]):o9 XW0 bF (kX zs ys off na nb i) .normal (kX zs ys off na nb (IntKind.i64.wrap (i-1))):=
 b7 (Base.cx_ok s5 10).1 progOk.mixed [] 200 [true,false,false] [] (by kernel_rfl) hl (by kernel_rfl) (by kernel_rfl)
theorem o1q (zs ys:List Int) (off na nb:Nat) (i:Int) (hl:d5 [decide (Int.ofNat 0≤i)=false]):o9 XW0 bF (kX zs ys off na nb i) (.exit 0) (kX zs ys off na nb i):=
 b7 (Base.cx_ok s5 10).1 progOk.mixed [] 200 [false] [] (by kernel_rfl) hl (by kernel_rfl) (by kernel_rfl)
theorem q1k (zs ys L R:List Int) (off n na nb N:Nat) (la c i:Int):n8 XW0 [J5 (.exit 0) (fun _=>e0a zs ys L off na nb N la c i)] 200 202 [wO zs off n,wS ys] [wS R] [] =some [a7 XW0 d0s (m5 XW0 200 202 [wO zs off n,wS ys] []) (.exit 0) (e0a zs ys L off na nb N la c i),Int.ofNat 0≤Int.ofNat n∧Int.ofNat n=Int.ofNat n∧Int.ofNat (8*n)≤Int.ofNat 281474976710656∧Int.ofNat n≤Int.ofNat 9223372036854775807,N=R.length∧N≤L.length∧List.take N L=R] :=by kernel_rfl
theorem i1o (zs ys L:List Int) (off na nb N:Nat) (la c i:Int) (hl:d5 [i.toNat < L.length,(Int.ofNat 0≤i∧i < Int.ofNat N)∧0 < L.length,c.toNat≤1,(n7 off (L6 i.toNat 1)) < zs.length,(Int.ofNat 0≤i∧i < Int.ofNat na)∧0 < zs.length,i.toNat < ys.length,(Int.ofNat 0≤i∧i < Int.ofNat nb)∧0 < ys.length,decide (i < Int.ofNat nb)=true,decide (i < la)=true]):o9 XW0 d0s (e0a zs ys L off na nb N la c i) .normal (e0a zs ys (bM L i.toNat (vI (zs.getD (n7 off i.toNat) 0) (ys.getD i.toNat 0) c)) off na nb N la (uA (zs.getD (n7 off i.toNat) 0) (ys.getD i.toNat 0) c) (IntKind.i64.wrap (i+1))):=
 b7 (Base.cx_ok s5 10).1 progOk.mixed [] 200 [true,true] [] (by kernel_rfl) hl (by kernel_rfl) (by kernel_rfl)
theorem o1p (zs ys L:List Int) (off na nb N:Nat) (la c i:Int) (hl:d5 [i.toNat < L.length,(Int.ofNat 0≤i∧i < Int.ofNat N)∧0 < L.length,c.toNat≤1,(n7 off (L6 i.toNat 1)) < zs.length,(Int.ofNat 0≤i∧i < Int.ofNat na)∧0 < zs.length,decide (i < Int.ofNat nb)=false,decide (i < la)=true]):o9 XW0 d0s (e0a zs ys L off na nb N la c i) .normal (e0a zs ys (bM L i.toNat (vI (zs.getD (n7 off i.toNat) 0) 0 c)) off na nb N la (uA (zs.getD (n7 off i.toNat) 0) 0 c) (IntKind.i64.wrap (i+1))):=
 b7 (Base.cx_ok s5 10).1 progOk.mixed [] 200 [true,false] [] (by kernel_rfl) hl (by kernel_rfl) (by kernel_rfl)
theorem n1l (zs ys L:List Int) (off na nb N:Nat) (la c i:Int) (hl:d5 [decide (i < la)=false]):o9 XW0 d0s (e0a zs ys L off na nb N la c i) (.exit 0) (e0a zs ys L off na nb N la c i):=
 b7 (Base.cx_ok s5 10).1 progOk.mixed [] 200 [false] [] (by kernel_rfl) hl (by kernel_rfl) (by kernel_rfl)
abbrev part (zs:List Int) (off n:Nat):List Int:=(zs.drop off).take n
theorem cD {zs:List Int} {off n:Nat} (h:off+n≤zs.length):(part zs off n).length=n:=by
 unfold part
 rw [List.length_take,List.length_drop]
 omega
theorem V8 {zs:List Int} {off n m:Nat} (hm:m < n):(part zs off n).getD m 0=zs.getD (off+m) 0:=by
 unfold part
 simp [List.getD,List.getElem?_drop,hm]
theorem g0m {zs:List Int} {off n m:Nat} (hm:m < n):zs.getD (n7 off (L6 (Int.ofNat m).toNat 1)) (Int.ofNat 0)=(part zs off n).getD m 0:=by
 rw [V8 hm,v6,M8]
 simp
section
variable (zs ys:List Int) {off n m:Nat} (ho:off+n≤zs.length)
include ho
theorem b1l (hm:m < n) (hy:m < ys.length) (h:(part zs off n).getD m 0 < ys.getD m 0):o9 XW0 bF (kX zs ys off n ys.length m) .ret (c1k zs ys off n ys.length (-1)):=by
 refine f1s zs ys off n ys.length (Int.ofNat m) ⟨?_,hy,⟨⟨Int.ofNat_le.2 (Nat.zero_le _),Int.ofNat_lt.2 hy⟩,by omega⟩,?_,⟨⟨Int.ofNat_le.2 (Nat.zero_le _),Int.ofNat_lt.2 hm⟩,by omega⟩,by simp,trivial⟩
 ·rw [← g0m (n:=n) hm] at h
  exact decide_eq_true h
 ·show n7 off (L6 (Int.ofNat m).toNat 1) < _
  rw [v6,M8]
  simp
  omega
theorem q0y (hm:m < n) (hy:m < ys.length) (h:ys.getD m 0 < (part zs off n).getD m 0):o9 XW0 bF (kX zs ys off n ys.length m) .ret (c1k zs ys off n ys.length 1):=by
 have ha:n7 off (L6 (Int.ofNat m).toNat 1) < zs.length:=by rw [v6,M8]; simp; omega
 have b1:(Int.ofNat 0≤Int.ofNat m∧Int.ofNat m < Int.ofNat ys.length)∧0 < ys.length:=⟨⟨Int.ofNat_le.2 (Nat.zero_le _),Int.ofNat_lt.2 hy⟩,by omega⟩
 have b2:(Int.ofNat 0≤Int.ofNat m∧Int.ofNat m < Int.ofNat n)∧0 < zs.length:=⟨⟨Int.ofNat_le.2 (Nat.zero_le _),Int.ofNat_lt.2 hm⟩,by omega⟩
 rw [← g0m (n:=n) hm] at h
 exact c1v zs ys off n ys.length (Int.ofNat m) ⟨decide_eq_true h,hy,b1,ha,b2,decide_eq_false (Int.not_lt.2 (Int.le_of_lt h)),hy,b1,ha,b2,by simp,trivial⟩
theorem r0b (hm:m < n) (hy:m < ys.length) (h:(part zs off n).getD m 0=ys.getD m 0):o9 XW0 bF (kX zs ys off n ys.length m) .normal (kX zs ys off n ys.length (IntKind.i64.wrap ((m:Int)-1))):=by
 have ha:n7 off (L6 (Int.ofNat m).toNat 1) < zs.length:=by rw [v6,M8]; simp; omega
 have b1:(Int.ofNat 0≤Int.ofNat m∧Int.ofNat m < Int.ofNat ys.length)∧0 < ys.length:=⟨⟨Int.ofNat_le.2 (Nat.zero_le _),Int.ofNat_lt.2 hy⟩,by omega⟩
 have b2:(Int.ofNat 0≤Int.ofNat m∧Int.ofNat m < Int.ofNat n)∧0 < zs.length:=⟨⟨Int.ofNat_le.2 (Nat.zero_le _),Int.ofNat_lt.2 hm⟩,by omega⟩
 rw [← g0m (n:=n) hm] at h
 have h1:¬ ys.getD m 0 < zs.getD (n7 off (L6 (Int.ofNat m).toNat 1)) (Int.ofNat 0):=by rw [h]; exact Int.lt_irrefl _
 have h2:¬ zs.getD (n7 off (L6 (Int.ofNat m).toNat 1)) (Int.ofNat 0) < ys.getD m 0:=by rw [h]; exact Int.lt_irrefl _
 exact e1r zs ys off n ys.length (Int.ofNat m) ⟨decide_eq_false h1,hy,b1,ha,b2,decide_eq_false h2,hy,b1,ha,b2,by simp,trivial⟩
theorem a1w (L:List Int) (c:Int) (hm:m < n) (hy:m < ys.length) (hL:n≤L.length) (hc:c.toNat≤1):o9 XW0 d0s (e0a zs ys L off n ys.length n n c m) .normal (e0a zs ys (bM L m (vI ((part zs off n).getD m 0) (ys.getD m 0) c)) off n ys.length n n (uA ((part zs off n).getD m 0) (ys.getD m 0) c) (IntKind.i64.wrap ((m:Int)+1))):=by
 have ha:n7 off (L6 (Int.ofNat m).toNat 1) < zs.length:=by rw [v6,M8]; simp; omega
 have b2:(Int.ofNat 0≤Int.ofNat m∧Int.ofNat m < Int.ofNat n)∧0 < zs.length:=⟨⟨Int.ofNat_le.2 (Nat.zero_le _),Int.ofNat_lt.2 hm⟩,by omega⟩
 have b3:(Int.ofNat 0≤Int.ofNat m∧Int.ofNat m < Int.ofNat n)∧0 < L.length:=⟨⟨Int.ofNat_le.2 (Nat.zero_le _),Int.ofNat_lt.2 hm⟩,by omega⟩
 have:=i1o zs ys L off n ys.length n n c (Int.ofNat m) ⟨(by simp; omega),b3,hc,ha,b2,hy,⟨⟨Int.ofNat_le.2 (Nat.zero_le _),Int.ofNat_lt.2 hy⟩,by omega⟩,decide_eq_true (Int.ofNat_lt.2 hy),decide_eq_true (Int.ofNat_lt.2 hm),trivial⟩
 rw [show n7 off (Int.ofNat m).toNat=off+m by rw [v6]; rfl,← V8 (zs:=zs) (off:=off) hm] at this
 exact this
theorem d1r (L:List Int) (c:Int) (hm:m < n) (hy:ys.length≤m) (hL:n≤L.length) (hc:c.toNat≤1):o9 XW0 d0s (e0a zs ys L off n ys.length n n c m) .normal (e0a zs ys (bM L m (vI ((part zs off n).getD m 0) 0 c)) off n ys.length n n (uA ((part zs off n).getD m 0) 0 c) (IntKind.i64.wrap ((m:Int)+1))):=by
 have ha:n7 off (L6 (Int.ofNat m).toNat 1) < zs.length:=by rw [v6,M8]; simp; omega
 have b2:(Int.ofNat 0≤Int.ofNat m∧Int.ofNat m < Int.ofNat n)∧0 < zs.length:=⟨⟨Int.ofNat_le.2 (Nat.zero_le _),Int.ofNat_lt.2 hm⟩,by omega⟩
 have b3:(Int.ofNat 0≤Int.ofNat m∧Int.ofNat m < Int.ofNat n)∧0 < L.length:=⟨⟨Int.ofNat_le.2 (Nat.zero_le _),Int.ofNat_lt.2 hm⟩,by omega⟩
 have:=o1p zs ys L off n ys.length n n c (Int.ofNat m) ⟨(by simp; omega),b3,hc,ha,b2,decide_eq_false (by simp; omega),decide_eq_true (Int.ofNat_lt.2 hm),trivial⟩
 rw [show n7 off (Int.ofNat m).toNat=off+m by rw [v6]; rfl,← V8 (zs:=zs) (off:=off) hm] at this
 exact this
end
theorem xI (zs ys:List Int) (off n:Nat) (x:AX) (s':St) (h:a7 XW0 bF (kX zs ys off n ys.length (IntKind.i64.wrap ((n:Int)-1))) x s'):a7 XW0 bF (m5 XW0 200 197 [wO zs off n,wS ys] [false]) x s':=
 f9 h [] (by kernel_rfl) (by kernel_rfl) (by kernel_rfl)
theorem g1g (zs ys:List Int) (off n:Nat) (x:AX) (s':St) (h:a7 XW0 d0s (e0a zs ys (List.replicate n 0) off n ys.length n n 0 0) x s'):a7 XW0 d0s (m5 XW0 200 202 [wO zs off n,wS ys] []) x s':=
 f9 h [] (by kernel_rfl) (by kernel_rfl) (by kernel_rfl)
theorem b0g {zs xs ys:List Int} {off n:Nat} (ho:off+n≤zs.length) (hxs:xs=part zs off n) (hx:Dg W64 xs) (hy:Dg W64 ys) (h1:n < 1099511627776) (h2:ys.length < 1099511627776):
  Ev.Sem Tryz.prog J0 197 [wO zs off n,wS ys] [.c (.v (.int .i64 (fX xs ys)))] :=by
 obtain rfl:n=xs.length:=by rw [hxs,cD ho]
 by_cases hn:xs.length=ys.length
 case neg=>
  refine d9 s5 10 _ _ (h1v zs ys off xs.length _) ⟨by simp; omega,?_,trivial⟩
  unfold fX
  rw [if_pos hn]
  have:=IntKind.wrap_i64 ((xs.length:Int)-ys.length)
  congr 1
  simp only [Int.ofNat_eq_natCast]
  omega
 have hw:∀ m:Nat,m < xs.length→IntKind.i64.wrap (((m+1:Nat):Int)-1)=(m:Int):=fun m hm=>by
  have:=m4 (n:=m) (by omega)
  rw [← this]
  congr 1
  omega
 have hw1:IntKind.i64.wrap ((xs.length:Int)-1)=(xs.length:Int)-1:=by
  have:=IntKind.wrap_i64 ((xs.length:Int)-1)
  omega
 have hws:∀ m:Nat,m < xs.length→IntKind.i64.wrap ((m:Int)-1)=(m:Int)-1:=fun m hm=>by
  have:=IntKind.wrap_i64 ((m:Int)-1)
  omega
 have step:∀ m,m < xs.length→xs.drop (m+1)=ys.drop (m+1)→
   (val W64 xs < val W64 ys∧o9 XW0 bF (kX zs ys off xs.length ys.length m) .ret (c1k zs ys off xs.length ys.length (-1)))∨
   (val W64 ys < val W64 xs∧o9 XW0 bF (kX zs ys off xs.length ys.length m) .ret (c1k zs ys off xs.length ys.length 1))∨
   (xs.drop m=ys.drop m∧o9 XW0 bF (kX zs ys off xs.length ys.length m) .normal (kX zs ys off xs.length ys.length ((m:Int)-1))):=by
  intro m hm hd
  rcases Int.lt_trichotomy (xs.getD m 0) (ys.getD m 0) with h | h | h
  ·exact .inl ⟨vC hx hm (by omega) hd h,by rw [hxs] at h; exact b1l zs ys ho hm (by omega) h⟩
  ·right; right
   refine⟨by rw [z6 (l:=xs) (m:=m) hm,z6 (l:=ys) (m:=m) (by omega),h,hd],?_⟩
   have:=r0b zs ys ho hm (by omega) (by rw [← hxs]; exact h)
   rw [hws m hm] at this
   exact this
  ·exact .inr (.inl ⟨vC hy (by omega) hm hd.symm h,by rw [hxs] at h; exact q0y zs ys ho hm (by omega) h⟩)
 have good:∀ m,m≤xs.length→xs.drop m=ys.drop m→
   (val W64 xs < val W64 ys∧a7 XW0 bF (kX zs ys off xs.length ys.length ((m:Int)-1)) .ret (c1k zs ys off xs.length ys.length (-1)))∨
   (val W64 ys < val W64 xs∧a7 XW0 bF (kX zs ys off xs.length ys.length ((m:Int)-1)) .ret (c1k zs ys off xs.length ys.length 1))∨
   (xs=ys∧a7 XW0 bF (kX zs ys off xs.length ys.length ((m:Int)-1)) (.exit 0) (kX zs ys off xs.length ys.length (-1))):=by
  intro m hm hd
  rcases Nat.lt_trichotomy (val W64 xs) (val W64 ys) with h | h | h
  ·refine .inl ⟨h,?_⟩
   refine A8 (fun m:Nat=>kX zs ys off xs.length ys.length ((m:Int)-1)) id (fun m=>m≤xs.length∧xs.drop m=ys.drop m) (by intro e; cases e) (fun k hk=> ?_) m ⟨hm,hd⟩
   cases k with
   | zero=>
    have:xs=ys:=by simpa using hk.2
    rw [this] at h
    omega
   | succ k=>
    have e:(((k+1:Nat):Int)-1)=(k:Int):=by omega
    simp only [e]
    rcases step k (by omega) hk.2 with ⟨_,s⟩ | ⟨q,_⟩ | ⟨q,s⟩
    ·exact .inr s
    ·omega
    ·exact .inl ⟨k,⟨by omega,q⟩,Nat.lt_succ_self _,s⟩
  ·refine .inr (.inr ?_)
   have he:=uJ b9 hx hy hn h
   refine⟨he,?_⟩
   refine A8 (fun m:Nat=>kX zs ys off xs.length ys.length ((m:Int)-1)) id (fun m=>m≤xs.length∧xs.drop m=ys.drop m) (by intro e; cases e) (fun k hk=> ?_) m ⟨hm,hd⟩
   cases k with
   | zero=>
    right
    exact o1q zs ys off xs.length ys.length (-1) ⟨by decide,trivial⟩
   | succ k=>
    have e:(((k+1:Nat):Int)-1)=(k:Int):=by omega
    simp only [e]
    rcases step k (by omega) hk.2 with ⟨q,_⟩ | ⟨q,_⟩ | ⟨q,s⟩
    ·omega
    ·omega
    ·exact .inl ⟨k,⟨by omega,q⟩,Nat.lt_succ_self _,s⟩
  ·refine .inr (.inl ⟨h,?_⟩)
   refine A8 (fun m:Nat=>kX zs ys off xs.length ys.length ((m:Int)-1)) id (fun m=>m≤xs.length∧xs.drop m=ys.drop m) (by intro e; cases e) (fun k hk=> ?_) m ⟨hm,hd⟩
   cases k with
   | zero=>
    have:xs=ys:=by simpa using hk.2
    rw [this] at h
    omega
   | succ k=>
    have e:(((k+1:Nat):Int)-1)=(k:Int):=by omega
    simp only [e]
    rcases step k (by omega) hk.2 with ⟨q,_⟩ | ⟨_,s⟩ | ⟨q,s⟩
    ·omega
    ·exact .inr s
    ·exact .inl ⟨k,⟨by omega,q⟩,Nat.lt_succ_self _,s⟩
 have hne:((xs.length:Int) !=ys.length)=false:=by simp [hn]
 rcases good xs.length (Nat.le_refl _) (by rw [List.drop_length,hn,List.drop_length]) with ⟨h,s⟩ | ⟨h,s⟩ | ⟨h,s⟩
 ·rw [← hw1] at s
  refine d9 s5 10 _ _ (k0e zs ys off _ _ _ (-1) _) ⟨xI zs ys off _ _ _ s,hne,?_,trivial⟩
  unfold fX
  rw [if_neg (by simp [hn]),if_pos h]
 ·rw [← hw1] at s
  refine d9 s5 10 _ _ (k0e zs ys off _ _ _ 1 _) ⟨xI zs ys off _ _ _ s,hne,?_,trivial⟩
  unfold fX
  rw [if_neg (by simp [hn]),if_neg (by omega),if_pos h]
 ·rw [← hw1] at s
  refine d9 s5 10 _ _ (i1d zs ys off _ _ _ (-1) _) ⟨xI zs ys off _ _ _ s,hne,?_,trivial⟩
  unfold fX
  rw [if_neg (by simp [hn]),if_neg (by rw [h]; omega),if_neg (by rw [h]; omega)]
  rfl
theorem o0t {zs xs ys:List Int} {off n:Nat} (ho:off+n≤zs.length) (hxs:xs=part zs off n) (hx:Dg W64 xs) (hy:Dg W64 ys) (hle:val W64 ys≤val W64 xs) (h1:n < 1099511627776) (h2:ys.length≤n):
  Ev.Sem Tryz.prog J0 202 [wO zs off n,wS ys] [wS (J8 xs ys)] :=by
 unfold J8
 obtain rfl:n=xs.length:=by rw [hxs,cD ho]
 obtain⟨hg,hi⟩:=W5 hx hy xs.length xs.length (Nat.le_refl _)
 have hlast:=sM hx hy (Nat.le_refl _) h2 hle hg hi
 have hL:a7 XW0 d0s (e0a zs ys (List.replicate xs.length 0) off xs.length ys.length xs.length xs.length 0 0) (.exit 0)
   (e0a zs ys (itr (jN xs ys) xs.length (I0 xs.length)).L off xs.length ys.length xs.length xs.length (itr (jN xs ys) xs.length (I0 xs.length)).c xs.length):=by
  refine v8 (fun k=>e0a zs ys (itr (jN xs ys) k (I0 xs.length)).L off xs.length ys.length xs.length xs.length (itr (jN xs ys) k (I0 xs.length)).c k) xs.length (by intro e; cases e) (fun k hk=> ?_)
   (n1l zs ys _ off xs.length ys.length xs.length _ _ xs.length ⟨by simp,trivial⟩)
  obtain⟨hg,hi⟩:=W5 hx hy xs.length k (by omega)
  simp only [itr]
  generalize itr (jN xs ys) k (I0 xs.length)=s at*
  obtain⟨h1',h2',h3,h4,h5,h6,h7⟩:=hg
  have hw:=C0 (n:=k) (by omega)
  subst hi
  by_cases hlt2:s.i < ys.length
  ·have:=a1w zs ys ho s.L s.c hk hlt2 (by omega) (by omega)
   rw [hw,← hxs] at this
   exact this
  ·have:=d1r zs ys ho s.L s.c hk (by omega) (by omega) (by omega)
   rw [hw,← hxs] at this
   unfold jN
   rw [S6 (l:=ys) (i:=s.i) (by omega)]
   exact this
 refine d9 s5 10 _ _ (q1k zs ys _ _ off xs.length _ _ _ _ _ _) ⟨g1g zs ys off _ _ _ hL,⟨by simp,rfl,?_,?_⟩,⟨?_,?_,?_⟩,trivial⟩
 ·exact Int.ofNat_le.2 (by omega)
 ·exact Int.ofNat_le.2 (by omega)
 ·rw [m9]
 ·rw [hg.2.1]; exact Nat.le_refl _
 ·rw [hlast]
  exact List.take_of_length_le (by rw [m9]; exact Nat.le_refl _)
abbrev shO:AS:= .c (.o .u64)
abbrev iW (neg:Bool) (xs:List Int):Arg:= .a [.v (.bool neg), .s T8 .u64 xs]
def Cn (xs:List Int):Prop:=xs=ws W64 (val W64 xs)
def A9 (xs ys:List Int):List Int:=ws W64 (val W64 xs*val W64 ys)
def d0q (a b:Bool) (xs ys:List Int):List Int:=ws W64 (l1f a b (val W64 xs) (val W64 ys))
def v1z (a b:Bool) (xs ys:List Int):Bool:=k1v a b (val W64 xs) (val W64 ys)
def o1d (xs:List Int) (d:Int):List Int:=ws W64 (val W64 xs/d.toNat)
def c1c (xs:List Int) (d:Int):Int:=((val W64 xs%d.toNat:Nat):Int)
def j0 (xs:List Int) (n:Int):List Int:=ws W64 (val W64 xs*2 ^n.toNat)
def z0l (xs:List Int) (n:Int):List Int:=ws W64 (val W64 xs/2 ^n.toNat)
def p8 (n:Int):List Int:=ws W64 n.toNat
def yT (a:Bool) (xs:List Int):Bool:=a && decide (0 < val W64 xs)
theorem Cn.ws (m:Nat):Cn (Wd.ws W64 m):=by unfold Cn; rw [t8]
def kG:List Arg→Option (List Arg×List Prop)
 | [.c (.v (.int .u64 n))] =>some ([iW false (p8 n)],[0≤n∧n.toNat < W64])
 | _=>none
def yG:List Arg→Option (List Arg×List Prop)
 | [.a [.v (.bool a), .s 32 .u64 xs], .a [.v (.bool b), .s 32 .u64 ys]] =>some ([iW (yT (a !=b) (A9 xs ys)) (A9 xs ys)],[Cn xs,Cn ys,xs.length < 274877906944,ys.length < 274877906944])
 | _=>none
def f0s:List Arg→Option (List Arg×List Prop)
 | [.a [.v (.bool a), .s 32 .u64 xs], .a [.v (.bool b), .s 32 .u64 ys]] =>some ([iW (v1z a b xs ys) (d0q a b xs ys)],[Cn xs,Cn ys,xs.length < 549755813888,ys.length < 549755813888])
 | _=>none
def oQ:List Arg→Option (List Arg×List Prop)
 | [.a [.v (.bool _), .s 32 .u64 xs], .c (.v (.int .u64 d))] =>some ([iW false (o1d xs d),uR (c1c xs d)],[Cn xs,xs.length < 549755813888,0 < d∧d.toNat < W64])
 | _=>none
def xU:List Arg→Option (List Arg×List Prop)
 | [.a [.v (.bool a), .s 32 .u64 xs], .c (.v (.int .i64 n))] =>some ([iW (yT a (j0 xs n)) (j0 xs n)],[Cn xs,xs.length < 549755813888,0≤n∧n.toNat < 549755813888])
 | _=>none
def mS:List Arg→Option (List Arg×List Prop)
 | [.a [.v (.bool a), .s 32 .u64 xs], .c (.v (.int .i64 n))] =>some ([iW (yT a (z0l xs n)) (z0l xs n)],[Cn xs,xs.length < 549755813888,0≤n∧n.toNat < 64])
 | _=>none
def yO:List Arg→Option (List Arg×List Prop)
 | [.a [.v (.bool a), .s 32 .u64 xs]] =>some ([iR (o1g a (val W64 xs))],[Cn xs])
 | _=>none
def W8:List Arg→Option (List Arg×List Prop)
 | [.c (.o .u64 zs off n), .c (.s 32 .u64 ys)] =>some ([.c (.v (.int .i64 (fX (part zs off n) ys)))],[off+n≤zs.length,Dg W64 zs,Dg W64 ys,n < 1099511627776,ys.length < 1099511627776])
 | _=>none
def fM:List Arg→Option (List Arg×List Prop)
 | [.c (.o .u64 zs off n), .c (.s 32 .u64 ys)] =>some ([wS (J8 (part zs off n) ys)],[off+n≤zs.length,Dg W64 zs,Dg W64 ys,val W64 ys≤val W64 (part zs off n),n < 1099511627776,ys.length≤n])
 | _=>none
theorem nV:∀ az rs l,kG az=some (rs,l)→d5 l→Ev.Sem Tryz.prog J0 86 az rs:=by
 intro az rs l h hl
 unfold kG at h
 split at h
 ·cases h
  rename_i n
  obtain⟨⟨h1,h2⟩,_⟩:=hl
  have:=c1n n.toNat h2
  rw [Int.toNat_of_nonneg h1] at this
  exact this
 ·cases h
theorem tD:∀ az rs l,yG az=some (rs,l)→d5 l→Ev.Sem Tryz.prog J0 89 az rs:=by
 intro az rs l h hl
 unfold yG at h
 split at h
 ·cases h
  rename_i a xs b ys
  obtain⟨h1,h2,h3,h4,_⟩:=hl
  unfold Cn at h1 h2
  have:=l1o a b (A:=val W64 xs) (B:=val W64 ys) (by unfold wl; rw [← h1]; exact h3) (by unfold wl; rw [← h2]; exact h4)
  unfold iN at this
  rw [← h1,← h2] at this
  unfold yT A9
  rw [t8]
  exact this
 ·cases h
theorem o0r:∀ az rs l,f0s az=some (rs,l)→d5 l→Ev.Sem Tryz.prog J0 151 az rs:=by
 intro az rs l h hl
 unfold f0s at h
 split at h
 ·cases h
  rename_i a xs b ys
  obtain⟨h1,h2,h3,h4,_⟩:=hl
  unfold Cn at h1 h2
  have:=n1o a b (A:=val W64 xs) (B:=val W64 ys) (by unfold wl; rw [← h1]; exact h3) (by unfold wl; rw [← h2]; exact h4)
  unfold iN at this
  rw [← h1,← h2] at this
  exact this
 ·cases h
theorem c0x:∀ az rs l,oQ az=some (rs,l)→d5 l→Ev.Sem Tryz.prog J0 143 az rs:=by
 intro az rs l h hl
 unfold oQ at h
 split at h
 ·cases h
  rename_i a xs d
  obtain⟨h1,h3,⟨h4,h5⟩,_⟩:=hl
  unfold Cn at h1
  have:=z0t a (A:=val W64 xs) (d:=d.toNat) (by unfold wl; rw [← h1]; exact h3) (by omega) h5
  unfold iN at this
  rw [← h1,Int.toNat_of_nonneg (Int.le_of_lt h4)] at this
  exact this
 ·cases h
theorem f0t:∀ az rs l,xU az=some (rs,l)→d5 l→Ev.Sem Tryz.prog J0 87 az rs:=by
 intro az rs l h hl
 unfold xU at h
 split at h
 ·cases h
  rename_i a xs n
  obtain⟨h1,h3,⟨h4,h5⟩,_⟩:=hl
  unfold Cn at h1
  have:=i1w a (A:=val W64 xs) (n:=n.toNat) (by unfold wl; rw [← h1]; exact h3) h5
  unfold iN at this
  rw [← h1,Int.toNat_of_nonneg h4] at this
  unfold yT j0
  rw [t8]
  exact this
 ·cases h
theorem b0w:∀ az rs l,mS az=some (rs,l)→d5 l→Ev.Sem Tryz.prog J0 199 az rs:=by
 intro az rs l h hl
 unfold mS at h
 split at h
 ·cases h
  rename_i a xs n
  obtain⟨h1,h3,⟨h4,h5⟩,_⟩:=hl
  unfold Cn at h1
  have:=t0v a (A:=val W64 xs) (n:=n.toNat) (by unfold wl; rw [← h1]; exact h3) h5
  unfold iN at this
  rw [← h1,Int.toNat_of_nonneg h4] at this
  unfold yT z0l
  rw [t8]
  exact this
 ·cases h
theorem h0m:∀ az rs l,yO az=some (rs,l)→d5 l→Ev.Sem Tryz.prog J0 168 az rs:=by
 intro az rs l h hl
 unfold yO at h
 split at h
 ·cases h
  rename_i a xs
  obtain⟨h1,_⟩:=hl
  unfold Cn at h1
  have:=f1u a (val W64 xs)
  unfold iN at this
  rw [← h1] at this
  exact this
 ·cases h
theorem yC {zs:List Int} (h:Dg W64 zs) (off n:Nat):Dg W64 (part zs off n):=(h.drop _).take _
theorem nK:∀ az rs l,W8 az=some (rs,l)→d5 l→Ev.Sem Tryz.prog J0 197 az rs:=by
 intro az rs l h hl
 unfold W8 at h
 split at h
 ·cases h
  rename_i zs off n ys
  obtain⟨h1,h2,h3,h4,h5,_⟩:=hl
  exact b0g h1 rfl (yC h2 _ _) h3 h4 h5
 ·cases h
theorem xT:∀ az rs l,fM az=some (rs,l)→d5 l→Ev.Sem Tryz.prog J0 202 az rs:=by
 intro az rs l h hl
 unfold fM at h
 split at h
 ·cases h
  rename_i zs off n ys
  obtain⟨h1,h2,h3,h4,h5,h6,_⟩:=hl
  exact o0t h1 rfl (yC h2 _ _) h3 h4 h5 h6
 ·cases h
noncomputable def k1k:kM:=l5 141 dP (l5 86 (y3 [shV] kG) (l5 89 (y3 [shI,shI] yG)
 (l5 197 (y3 [shO,shW] W8) (l5 202 (y3 [shO,shW] fM) C4))))
theorem p0w:kY Tryz.prog J0 k1k:=b8 bK (b8 (g9 _ nV) (b8 (g9 _ tD) (b8 (g9 _ nK) (b8 (g9 _ xT) (m6 _ _)))))
noncomputable def bW5:Base:=⟨Tryz.prog,J0,false,n0g,k1k,200,H8⟩
theorem l0u:BaseOk bW5:=⟨progOk,dV,p0w,i7⟩
noncomputable abbrev XW5:Cx:=bW5.cx 10
noncomputable def i1m:Code:=A2 Tryz.prog 198 0
abbrev k1e (off m n:Nat):List Value:=[.slice (some ⟨11,off,some 12⟩) m off,slV 13 n]
abbrev y0t (zs ys:List Int):Heap:=[(11, .row T8 1 (.ints .u64 zs) 12),(13, .ints .u64 ys)]
def o1v (zs ys:List Int) (off m n:Nat) (q:Int):St:=⟨only 58 [(0, .slice (some ⟨11,off,some 12⟩) m off),(1,slV 13 n),(6, .int .u64 q)],y0t zs ys,15,[],[],0,none,[],15⟩
def q1j (zs ys:List Int) (r:Int):St:=⟨only 58 [(4, .int .u64 r)],y0t zs ys,15,[],[],0,none,[],15⟩
def i0o (ys:List Int) (q:Int):List Int:=(A9 ((p8 q).take (p8 q).length) ys).take (A9 ((p8 q).take (p8 q).length) ys).length
def v1g (zs ys:List Int) (off m:Nat) (q:Int):List Int:=J8 (part zs off m) (i0o ys q)
def i0q (zs ys:List Int) (off m:Nat) (q:Int):List Int:=zs.take off++((v1g zs ys off m q).drop 0).take (v1g zs ys off m q).length++zs.drop (off+(v1g zs ys off m q).length)
theorem f1g (zs ys:List Int) (off m n:Nat) (q:Int) (hl:d5 [0 < (J8 (part zs off m) (List.take (A9 (List.take (p8 q).length (p8 q)) ys).length (A9 (List.take (p8 q).length (p8 q)) ys))).length∧(J8 (part zs off m) (List.take (A9 (List.take (p8 q).length (p8 q)) ys).length (A9 (List.take (p8 q).length (p8 q)) ys))).length≤m∧off+(J8 (part zs off m) (List.take (A9 (List.take (p8 q).length (p8 q)) ys).length (A9 (List.take (p8 q).length (p8 q)) ys))).length≤zs.length∧0+(J8 (part zs off m) (List.take (A9 (List.take (p8 q).length (p8 q)) ys).length (A9 (List.take (p8 q).length (p8 q)) ys))).length≤(J8 (part zs off m) (List.take (A9 (List.take (p8 q).length (p8 q)) ys).length (A9 (List.take (p8 q).length (p8 q)) ys))).length,off+m≤zs.length,(A9 (List.take (p8 q).length (p8 q)) ys).length≤(A9 (List.take (p8 q).length (p8 q)) ys).length,off+m≤zs.length,Dg 18446744073709551616 zs,Dg 18446744073709551616 (List.take (A9 (List.take (p8 q).length (p8 q)) ys).length (A9 (List.take (p8 q).length (p8 q)) ys)),val 18446744073709551616 (List.take (A9 (List.take (p8 q).length (p8 q)) ys).length (A9 (List.take (p8 q).length (p8 q)) ys))≤val 18446744073709551616 (part zs off m),m < 1099511627776,(List.take (A9 (List.take (p8 q).length (p8 q)) ys).length (A9 (List.take (p8 q).length (p8 q)) ys)).length≤m,decide (Int.ofNat 0≤fX (part zs off (m3 (List.take m (List.drop off zs))).length) (List.take (A9 (List.take (p8 q).length (p8 q)) ys).length (A9 (List.take (p8 q).length (p8 q)) ys)))=true,off+(m3 (List.take m (List.drop off zs))).length≤zs.length,(A9 (List.take (p8 q).length (p8 q)) ys).length≤(A9 (List.take (p8 q).length (p8 q)) ys).length,off+(m3 (List.take m (List.drop off zs))).length≤zs.length,Dg 18446744073709551616 zs,Dg 18446744073709551616 (List.take (A9 (List.take (p8 q).length (p8 q)) ys).length (A9 (List.take (p8 q).length (p8 q)) ys)),(m3 (List.take m (List.drop off zs))).length < 1099511627776,(List.take (A9 (List.take (p8 q).length (p8 q)) ys).length (A9 (List.take (p8 q).length (p8 q)) ys)).length < 1099511627776,off=off∧off+m≤zs.length∧zs.length < 1099511627776,(p8 q).length≤(p8 q).length,n=ys.length,Cn (List.take (p8 q).length (p8 q)),Cn ys,(List.take (p8 q).length (p8 q)).length < 274877906944,ys.length < 274877906944,Int.ofNat 0≤q∧q.toNat < 18446744073709551616]):o9 XW5 i1m (o1v zs ys off m n q) .ret (q1j (i0q zs ys off m q) ys q):=
 b7 (Base.cx_ok l0u 10).1 progOk.mixed [] 200 [true] [] (by kernel_rfl) hl (by kernel_rfl) (by kernel_rfl)
theorem c1m (zs ys:List Int) (off m n:Nat) (q:Int) (hl:d5 [decide (Int.ofNat 0≤fX (part zs off (m3 (List.take m (List.drop off zs))).length) (List.take (A9 (List.take (p8 q).length (p8 q)) ys).length (A9 (List.take (p8 q).length (p8 q)) ys)))=false,off+(m3 (List.take m (List.drop off zs))).length≤zs.length,(A9 (List.take (p8 q).length (p8 q)) ys).length≤(A9 (List.take (p8 q).length (p8 q)) ys).length,off+(m3 (List.take m (List.drop off zs))).length≤zs.length,Dg 18446744073709551616 zs,Dg 18446744073709551616 (List.take (A9 (List.take (p8 q).length (p8 q)) ys).length (A9 (List.take (p8 q).length (p8 q)) ys)),(m3 (List.take m (List.drop off zs))).length < 1099511627776,(List.take (A9 (List.take (p8 q).length (p8 q)) ys).length (A9 (List.take (p8 q).length (p8 q)) ys)).length < 1099511627776,off=off∧off+m≤zs.length∧zs.length < 1099511627776,(p8 q).length≤(p8 q).length,n=ys.length,Cn (List.take (p8 q).length (p8 q)),Cn ys,(List.take (p8 q).length (p8 q)).length < 274877906944,ys.length < 274877906944,Int.ofNat 0≤q∧q.toNat < 18446744073709551616]):o9 XW5 i1m (o1v zs ys off m n q) .normal (o1v zs ys off m n (IntKind.u64.wrap (q-1))):=
 b7 (Base.cx_ok l0u 10).1 progOk.mixed [] 200 [false] [] (by kernel_rfl) hl (by kernel_rfl) (by kernel_rfl)
theorem s0x (zs ys zs':List Int) (off m n:Nat) (r:Int):k0a XW5 [J5 .ret (fun _=>q1j zs' ys r)] 200 198 (k1e off m n) (y0t zs ys) 15 [true] =some { v:=Value.int IntKind.u64 r,h:=[(11,AObj.row T8 1 (Row.ints IntKind.u64 zs') 12),(13,AObj.ints IntKind.u64 ys)],n:=15,obs:=[a7 XW5 i1m (o8 XW5 200 198 (k1e off m n) (y0t zs ys) 15 [true]) .ret (q1j zs' ys r),(Int.ofNat 0≤zs.getD (n7 off n) (Int.ofNat 0)∧zs.getD (n7 off n) (Int.ofNat 0) < ys.getD (n7 0 (IntKind.i64.wrap (Int.ofNat n-Int.ofNat 1)).toNat) (Int.ofNat 0))∧(Int.ofNat 0≤zs.getD (n7 off (IntKind.i64.wrap (Int.ofNat n-Int.ofNat 1)).toNat) (Int.ofNat 0)∧zs.getD (n7 off (IntKind.i64.wrap (Int.ofNat n-Int.ofNat 1)).toNat) (Int.ofNat 0) < Int.ofNat 18446744073709551616)∧ys.getD (n7 0 (IntKind.i64.wrap (Int.ofNat n-Int.ofNat 1)).toNat) (Int.ofNat 0) < Int.ofNat 18446744073709551616,n7 0 (IntKind.i64.wrap (Int.ofNat n-Int.ofNat 1)).toNat < ys.length,(Int.ofNat 0≤IntKind.i64.wrap (Int.ofNat n-Int.ofNat 1)∧IntKind.i64.wrap (Int.ofNat n-Int.ofNat 1) < Int.ofNat n)∧0 < ys.length,n7 off (IntKind.i64.wrap (Int.ofNat n-Int.ofNat 1)).toNat < zs.length,(Int.ofNat 0≤IntKind.i64.wrap (Int.ofNat n-Int.ofNat 1)∧IntKind.i64.wrap (Int.ofNat n-Int.ofNat 1) < Int.ofNat m)∧0 < zs.length,n7 off n < zs.length,(Int.ofNat 0≤Int.ofNat n∧Int.ofNat n < Int.ofNat m)∧0 < zs.length,decide (zs.getD (n7 off n) (Int.ofNat 0) < ys.getD (n7 0 (IntKind.i64.wrap (Int.ofNat n-Int.ofNat 1)).toNat) (Int.ofNat 0))=true,n7 0 (IntKind.i64.wrap (Int.ofNat n-Int.ofNat 1)).toNat < ys.length,(Int.ofNat 0≤IntKind.i64.wrap (Int.ofNat n-Int.ofNat 1)∧IntKind.i64.wrap (Int.ofNat n-Int.ofNat 1) < Int.ofNat n)∧0 < ys.length,n7 off n < zs.length,(Int.ofNat 0≤Int.ofNat n∧Int.ofNat n < Int.ofNat m)∧0 < zs.length],ds:=[]} :=by kernel_rfl
theorem m1o (zs ys zs':List Int) (off m n:Nat) (r:Int):k0a XW5 [J5 .ret (fun _=>q1j zs' ys r)] 200 198 (k1e off m n) (y0t zs ys) 15 [false] =some { v:=Value.int IntKind.u64 r,h:=[(11,AObj.row T8 1 (Row.ints IntKind.u64 zs') 12),(13,AObj.ints IntKind.u64 ys)],n:=15,obs:=[a7 XW5 i1m (o8 XW5 200 198 (k1e off m n) (y0t zs ys) 15 [false]) .ret (q1j zs' ys r),decide (zs.getD (n7 off n) (Int.ofNat 0) < ys.getD (n7 0 (IntKind.i64.wrap (Int.ofNat n-Int.ofNat 1)).toNat) (Int.ofNat 0))=false,n7 0 (IntKind.i64.wrap (Int.ofNat n-Int.ofNat 1)).toNat < ys.length,(Int.ofNat 0≤IntKind.i64.wrap (Int.ofNat n-Int.ofNat 1)∧IntKind.i64.wrap (Int.ofNat n-Int.ofNat 1) < Int.ofNat n)∧0 < ys.length,n7 off n < zs.length,(Int.ofNat 0≤Int.ofNat n∧Int.ofNat n < Int.ofNat m)∧0 < zs.length],ds:=[]} :=by kernel_rfl
theorem Cn.dg {xs:List Int} (h:Cn xs):Dg W64 xs:=by
 unfold Cn at h
 rw [h]
 exact a0n _
theorem q0l (ys:List Int) (k:Nat):i0o ys (k:Int)=ws W64 (k*val W64 ys):=by
 unfold i0o p8 A9
 rw [List.take_length,List.take_length,Int.toNat_natCast,t8]
theorem p0x {zs:List Int} (hz:Dg W64 zs) (off m:Nat):part zs off (m3 (List.take m (List.drop off zs))).length=ws W64 (val W64 (part zs off m)):=by
 have h:=G5 A3 (yC hz off m)
 have h1:=(E3 h).2.2
 have h2:(m3 (part zs off m)).length≤m:=Nat.le_trans (y7 _) (by unfold part; rw [List.length_take]; exact Nat.min_le_left _ _)
 unfold part at h1 h2 ⊢
 rw [List.take_take,Nat.min_eq_left h2] at h1
 exact h1
section
variable {zs ys:List Int} {off n:Nat} (ho:off+(n+1)≤zs.length) (hzl:zs.length < 1099511627776) (hz:Dg W64 zs) (hy:Cn ys) (hn:n=ys.length) (hnl:ys.length < 274877906944) (hD:0 < val W64 ys)
 (hN:val W64 (part zs off (n+1)) < val W64 ys*W64)
include ho hzl hz hy hn hnl hD hN
theorem k0n {k:Nat} (hk:val W64 (part zs off (n+1))/val W64 ys≤k) (hkW:k < W64):
  a7 XW5 i1m (o1v zs ys off (n+1) n k) .ret (q1j (i0q zs ys off (n+1) ((val W64 (part zs off (n+1))/val W64 ys:Nat):Int)) ys ((val W64 (part zs off (n+1))/val W64 ys:Nat):Int)):=by
 have _:=hN
 have hDn:=I3 b9 hy.dg
 rw [← hn] at hDn
 generalize hNe:val W64 (part zs off (n+1))=N at*
 refine A8 (fun k:Nat=>o1v zs ys off (n+1) n k) id (fun k=>N/val W64 ys≤k∧k < W64) (by intro e; cases e) (fun k hk=> ?_) k ⟨hk,hkW⟩
 obtain⟨h1,h2⟩:=hk
 have hP:k*val W64 ys < W64 ^(n+1):=by
  rw [Nat.pow_succ,Nat.mul_comm]
  exact Nat.mul_lt_mul'' hDn h2
 have eP:=q0l ys k
 have hPl:(i0o ys k).length≤n+1:=by rw [eP]; exact wl_le.2 hP
 have hPl2:(i0o ys k).length < 1099511627776:=by omega
 have hPd:Dg W64 (i0o ys k):=by rw [eP]; exact a0n _
 have hPv:val W64 (i0o ys k)=k*val W64 ys:=by rw [eP,t8]
 have ht:=p0x hz off (n+1)
 rw [hNe] at ht
 have htl:(m3 (List.take (n+1) (List.drop off zs))).length≤n+1:=Nat.le_trans (y7 _) (by rw [List.length_take]; exact Nat.min_le_left _ _)
 have hc:∀ b,decide (k*val W64 ys≤N)=b→decide (Int.ofNat 0≤fX (part zs off (m3 (List.take (n+1) (List.drop off zs))).length) (i0o ys k))=b:=by
  intro b hb
  rw [ht,eP,← hb]
  exact decide_eq_decide.2 (kI N (k*val W64 ys))
 have hcq:Cn (List.take (p8 (k:Int)).length (p8 (k:Int))):=by
  rw [List.take_length]
  exact Cn.ws _
 have hql:(List.take (p8 (k:Int)).length (p8 (k:Int))).length < 274877906944:=by
  rw [List.take_length]
  have:wl k≤1:=wl_le.2 (by rw [Nat.pow_one]; exact h2)
  show wl ((k:Int).toNat) < _
  rw [Int.toNat_natCast]
  omega
 have hk0:Int.ofNat 0≤(k:Int)∧((k:Int)).toNat < 18446744073709551616:=⟨by simp,by rw [Int.toNat_natCast]; exact h2⟩
 by_cases hle:k*val W64 ys≤N
 ·right
  have hke:k=N/val W64 ys:=Nat.le_antisymm ((Nat.le_div_iff_mul_le hD).2 hle) h1
  rw [← hke]
  have hlen:(J8 (part zs off (n+1)) (i0o ys k)).length=n+1:=by
   unfold J8
   rw [m9,cD ho]
  refine f1g zs ys off (n+1) n k ⟨?_,ho,Nat.le_refl _,ho,hz,hPd,?_,by omega,hPl,hc _ (decide_eq_true hle),by omega,Nat.le_refl _,by omega,hz,hPd,by omega,hPl2,⟨rfl,ho,hzl⟩,Nat.le_refl _,hn,hcq,hy,hql,hnl,hk0,trivial⟩
  ·show 0 < (J8 (part zs off (n+1)) (i0o ys k)).length∧(J8 (part zs off (n+1)) (i0o ys k)).length≤n+1∧off+(J8 (part zs off (n+1)) (i0o ys k)).length≤zs.length∧0+(J8 (part zs off (n+1)) (i0o ys k)).length≤(J8 (part zs off (n+1)) (i0o ys k)).length
   rw [hlen]
   omega
  ·show val W64 (i0o ys k)≤val W64 (part zs off (n+1))
   rw [hPv,hNe]
   exact hle
 ·left
  have hk1:N/val W64 ys < k:=by
   rcases Nat.lt_or_ge (N/val W64 ys) k with h | h
   ·exact h
   ·exact absurd ((Nat.le_div_iff_mul_le hD).1 h) hle
  have hk2:0 < k:=Nat.lt_of_le_of_lt (Nat.zero_le _) hk1
  refine⟨k-1,⟨Nat.le_sub_one_of_lt hk1,Nat.lt_of_le_of_lt (Nat.sub_le _ _) h2⟩,Nat.sub_lt hk2 Nat.one_pos,?_⟩
  have hw:IntKind.u64.wrap ((k:Int)-1)=((k-1:Nat):Int):=by
   have h2':k < 18446744073709551616:=h2
   rw [IntKind.wrap_u64]
   clear h1 hk1
   omega
  have:=c1m zs ys off (n+1) n k ⟨hc _ (decide_eq_false hle),by omega,Nat.le_refl _,by omega,hz,hPd,by omega,hPl2,⟨rfl,ho,hzl⟩,Nat.le_refl _,hn,hcq,hy,hql,hnl,hk0,trivial⟩
  rw [hw] at this
  exact this
theorem x0o:i0q zs ys off (n+1) ((val W64 (part zs off (n+1))/val W64 ys:Nat):Int)=zs.take off++dl W64 (n+1) (val W64 (part zs off (n+1))%val W64 ys)++zs.drop (off+(n+1)):=by
 have _:=hzl
 have _:=hz
 have _:=hy
 have _:=hn
 have _:=hnl
 have _:=hD
 have _:=hN
 have hd:v1g zs ys off (n+1) ((val W64 (part zs off (n+1))/val W64 ys:Nat):Int)=dl W64 (n+1) (val W64 (part zs off (n+1))%val W64 ys):=by
  unfold v1g J8
  rw [q0l,t8,cD ho]
  congr 1
  rw [Nat.mul_comm]
  have:=Nat.div_add_mod (val W64 (part zs off (n+1))) (val W64 ys)
  omega
 unfold i0q
 rw [hd,m9,List.drop_zero]
 congr 2
 exact List.take_of_length_le (by rw [m9]; exact Nat.le_refl _)
end
def p0q (zs ys:List Int) (off m:Nat):Int:=((val W64 (part zs off m)/val W64 ys:Nat):Int)
def b0i (zs ys:List Int) (off m:Nat):List Int:=zs.take off++dl W64 m (val W64 (part zs off m)%val W64 ys)++zs.drop (off+m)
theorem fB {zs:List Int} (ys:List Int) {off m:Nat} (h:off+m≤zs.length):(b0i zs ys off m).length=zs.length:=by
 unfold b0i
 simp only [List.length_append,List.length_take,List.length_drop,m9]
 omega
theorem n1x {N D L H l y B W:Nat} (_:0 < B) (hN:N=L+B*(l+W*H)) (hL:L < B) (hD:B*y≤D) (hy:0 < y) (_:0 < D):N/D≤(H*W+l)/y:=by
 rw [Nat.le_div_iff_mul_le hy]
 have h1:N/D*D≤N:=Nat.div_mul_le_self N D
 have h2:N/D*(B*y)≤N/D*D:=Nat.mul_le_mul_left _ hD
 have h3:B*(N/D*y)≤N:=by
  have:B*(N/D*y)=N/D*(B*y):=by rw [← Nat.mul_assoc,Nat.mul_comm B,Nat.mul_assoc]
  omega
 have h4:B*(N/D*y) < B*(l+W*H+1):=by
  rw [Nat.mul_add B (l+W*H) 1]
  omega
 have h5:=Nat.lt_of_mul_lt_mul_left h4
 rw [Nat.mul_comm H W]
 omega
section
variable {zs ys:List Int} {off n:Nat} (ho:off+(n+1)≤zs.length) (hzl:zs.length < 1099511627776) (hz:Dg W64 zs) (hy:Cn ys) (hn:n=ys.length) (hnl:ys.length < 274877906944) (hD:0 < val W64 ys)
 (hN:val W64 (part zs off (n+1)) < val W64 ys*W64)
include ho hzl hz hy hn hnl hD hN
theorem z0e:0 < n:=by
 have _:=ho
 have _:=hzl
 have _:=hz
 rcases Nat.eq_zero_or_pos n with h | h
 ·have:ys=[] :=List.eq_nil_of_length_eq_zero (by omega)
  subst this
  simp [val] at hD
 ·exact h
theorem p1p:val W64 (part zs off (n+1))/val W64 ys < W64:=by
 have _:=ho
 have _:=hzl
 have _:=hz
 have _:=hy
 have _:=hn
 have _:=hnl
 exact (Nat.div_lt_iff_lt_mul hD).2 (by rw [Nat.mul_comm]; exact hN)
theorem l1m (hlt:zs.getD (off+n) 0 < ys.getD (n-1) 0):∃ q:Nat,r1q (zs.getD (off+n) 0) (zs.getD (off+(n-1)) 0) (ys.getD (n-1) 0)=(q:Int)∧val W64 (part zs off (n+1))/val W64 ys≤q∧q < W64:=by
 have hp:=z0e ho hzl hz hy hn hnl hD hN
 have g1:=hz.get b9 (off+n)
 have g2:=hz.get b9 (off+(n-1))
 have g3:=hy.dg.get b9 (n-1)
 refine⟨_,rfl,?_,?_⟩
 ·have hl:=cD ho
  have e1:=u6 W64 (part zs off (n+1)) (n-1) (by omega)
  rw [z6 (l:=part zs off (n+1)) (m:=n-1) (by omega),Nat.sub_add_cancel hp,z6 (l:=part zs off (n+1)) (m:=n) (by omega),List.drop_of_length_le (l:=part zs off (n+1)) (i:=n+1) (by omega),V8 (by omega),V8 (by omega)] at e1
  simp only [val,Nat.mul_zero,Nat.add_zero] at e1
  have e2:=u6 W64 ys (n-1) (by omega)
  rw [z6 (l:=ys) (m:=n-1) (by omega),Nat.sub_add_cancel hp,List.drop_of_length_le (l:=ys) (i:=n) (by omega)] at e2
  simp only [val,Nat.mul_zero,Nat.add_zero] at e2
  have e3:=I3 b9 ((yC hz off (n+1)).take (n-1))
  rw [List.length_take,Nat.min_eq_left (by omega)] at e3
  exact n1x (Nat.pow_pos b9) e1 e3 (by rw [e2]; exact Nat.le_add_left _ _) (by omega) hD
 ·have q1:(zs.getD (off+n) 0).toNat+1≤(ys.getD (n-1) 0).toNat:=by omega
  have q2:(zs.getD (off+(n-1)) 0).toNat < 18446744073709551616:=by
   have:((W64:Nat):Int)=18446744073709551616:=rfl
   omega
  rw [Nat.div_lt_iff_lt_mul (by omega)]
  have q3:=Nat.mul_le_mul_right 18446744073709551616 q1
  show _ < 18446744073709551616*_
  rw [Nat.mul_comm 18446744073709551616]
  omega
theorem l1h:∃ (b:Bool) (r:CR),k0a XW5 [J5 .ret (fun _=>q1j (b0i zs ys off (n+1)) ys (p0q zs ys off (n+1)))] 200 198 (k1e off (n+1) n) (y0t zs ys) 15 [b] =some r∧d5 r.obs∧r.v= .int .u64 (p0q zs ys off (n+1))∧r.h=y0t (b0i zs ys off (n+1)) ys∧r.n=15:=by
 have hp:=z0e ho hzl hz hy hn hnl hD hN
 have hw:IntKind.i64.wrap (Int.ofNat n-Int.ofNat 1)=((n-1:Nat):Int):=by
  have h1:=m4 (n:=n-1) (by omega)
  rw [← h1]
  congr 1
  simp only [Int.ofNat_eq_natCast]
  omega
 have ea:n7 off n=off+n:=v6 _ _
 have eb:n7 off (IntKind.i64.wrap (Int.ofNat n-Int.ofNat 1)).toNat=off+(n-1):=by rw [hw,v6,Int.toNat_natCast]
 have ec:n7 0 (IntKind.i64.wrap (Int.ofNat n-Int.ofNat 1)).toNat=n-1:=by rw [hw,v6,Int.toNat_natCast,Nat.zero_add]
 have g1:=hz.get b9 (off+n)
 have g2:=hz.get b9 (off+(n-1))
 have g3:=hy.dg.get b9 (n-1)
 have o1:n7 off n < zs.length:=by rw [ea]; omega
 have o2:(Int.ofNat 0≤Int.ofNat n∧Int.ofNat n < Int.ofNat (n+1))∧0 < zs.length:=⟨⟨Int.ofNat_le.2 (Nat.zero_le _),Int.ofNat_lt.2 (by omega)⟩,by omega⟩
 have o3:n7 0 (IntKind.i64.wrap (Int.ofNat n-Int.ofNat 1)).toNat < ys.length:=by rw [ec]; omega
 have o4:(Int.ofNat 0≤IntKind.i64.wrap (Int.ofNat n-Int.ofNat 1)∧IntKind.i64.wrap (Int.ofNat n-Int.ofNat 1) < Int.ofNat n)∧0 < ys.length:=by rw [hw]; exact⟨⟨Int.ofNat_le.2 (Nat.zero_le _),Int.ofNat_lt.2 (by omega)⟩,by omega⟩
 have o5:n7 off (IntKind.i64.wrap (Int.ofNat n-Int.ofNat 1)).toNat < zs.length:=by rw [eb]; omega
 have o6:(Int.ofNat 0≤IntKind.i64.wrap (Int.ofNat n-Int.ofNat 1)∧IntKind.i64.wrap (Int.ofNat n-Int.ofNat 1) < Int.ofNat (n+1))∧0 < zs.length:=by rw [hw]; exact⟨⟨Int.ofNat_le.2 (Nat.zero_le _),Int.ofNat_lt.2 (by omega)⟩,by omega⟩
 have into1:∀ x s',a7 XW5 i1m (o1v zs ys off (n+1) n (r1q (zs.getD (n7 off n) 0) (zs.getD (n7 off (IntKind.i64.wrap (Int.ofNat n-Int.ofNat 1)).toNat) 0) (ys.getD (n7 0 (IntKind.i64.wrap (Int.ofNat n-Int.ofNat 1)).toNat) 0))) x s'→a7 XW5 i1m (o8 XW5 200 198 (k1e off (n+1) n) (y0t zs ys) 15 [true]) x s':=
  fun x s' h=>f9 h [] (by kernel_rfl) (by kernel_rfl) (by kernel_rfl)
 have into2:∀ x s',a7 XW5 i1m (o1v zs ys off (n+1) n 18446744073709551615) x s'→a7 XW5 i1m (o8 XW5 200 198 (k1e off (n+1) n) (y0t zs ys) 15 [false]) x s':=
  fun x s' h=>f9 h [] (by kernel_rfl) (by kernel_rfl) (by kernel_rfl)
 have eL:=x0o ho hzl hz hy hn hnl hD hN
 by_cases hlt:zs.getD (off+n) 0 < ys.getD (n-1) 0
 ·obtain⟨q,e1,e2,e3⟩:=l1m ho hzl hz hy hn hnl hD hN hlt
  refine⟨true,_,s0x zs ys (b0i zs ys off (n+1)) off (n+1) n (p0q zs ys off (n+1)),⟨into1 _ _ ?_,?_,o3,o4,o5,o6,o1,o2,?_,o3,o4,o1,o2,trivial⟩,rfl,rfl,rfl⟩
  ·rw [ea,eb,ec,e1]
   have:=k0n ho hzl hz hy hn hnl hD hN e2 e3
   rw [eL] at this
   exact this
  ·rw [ea,eb,ec]
   exact⟨⟨g1.1,hlt⟩,⟨g2.1,g2.2⟩,g3.2⟩
  ·rw [ea,ec]
   exact decide_eq_true hlt
 ·refine⟨false,_,m1o zs ys (b0i zs ys off (n+1)) off (n+1) n (p0q zs ys off (n+1)),⟨into2 _ _ ?_,?_,o3,o4,o1,o2,trivial⟩,rfl,rfl,rfl⟩
  ·have hlim:=p1p ho hzl hz hy hn hnl hD hN
   have:=k0n ho hzl hz hy hn hnl hD hN (k:=18446744073709551615) (Nat.le_of_lt_succ hlim) (by decide)
   rw [eL] at this
   exact this
  ·rw [ea,ec]
   exact decide_eq_false hlt
end
theorem Sim.turn' {P:Program} {B:Nat} {M:Nat→Prop} {ρ:Num} {H:Heap} {w w':World} (h:Sim P B M ρ H w) {n b:Nat} {o0 o:AObj} (h0:H.get n=some o0) (hr:o0.rw=true) (hn:ρ n=some b)
  (ho:ORep B M ρ w' (some b) o) (hk:∀ k,k < w.heap.size→k≠b→w'.heap[k]? =w.heap[k]?):Sim P B M ρ (H.set n o) w':=by
 refine⟨h.glob,fun i o' hi=> ?_,fun i j oi oj hi hri hj hij hne=> ?_⟩
 ·rw [Heap.get_set H n o o0 h0] at hi
  split at hi
  ·rename_i e; subst e; cases hi; rw [hn]; exact ho
  ·rename_i hne
   have hold:=h.obj i o' hi
   have hd:∀ b',ρ i=some b'→w'.heap[b']? =w.heap[b']? :=fun b' hb'=>by
    refine hk b' ?_ fun e=> ?_
    ·rw [hb'] at hold
     exact hold.lt
    ·subst e
     exact h.inj n i o0 o' h0 hr hi hne (by rw [hn]; simp) (hn.trans hb'.symm)
   cases o' with
   | row e sz r k=>
    rcases hold with hold | ⟨b',cap,cur,h1,h2,h3,h4⟩
    ·exact .inl hold
    ·exact .inr ⟨b',cap,cur,h1,h2,h3.to (hd b' h1),h4⟩
   | cells cs t=>obtain⟨b',h1,h2,h3⟩:=hold; exact⟨b',h1,(hd b' h1).trans h2,h3⟩
   | iter s pos=>obtain⟨b',h1,h2,h3⟩:=hold; exact⟨b',h1,(hd b' h1).trans h2,h3⟩
   | ints k xs=>
    rcases hold with hold | ⟨b',cs,t,fr,h1,h2,h3⟩
    ·exact .inl hold
    ·exact .inr ⟨b',cs,t,fr,h1,(hd b' h1).trans h2,h3⟩
   | loop st pn ts ps asg bd=>obtain⟨b',r,h1,h2,h3⟩:=hold; exact⟨b',r,h1,(hd b' h1).trans h2,h3⟩
   | defr=>obtain⟨b',h1,h2,h3⟩:=hold; exact⟨b',h1,(hd b' h1).trans h2,h3⟩
   | dead=>obtain⟨b',q,h1,h2,h3⟩:=hold; exact⟨b',q,h1,(hd b' h1).trans h2,h3⟩
   | ro xs=>
    rcases hold with hold | ⟨b',cs,t,fr,h1,h2,h3⟩
    ·exact .inl hold
    ·exact .inr ⟨b',cs,t,fr,h1,(hd b' h1).trans h2,h3⟩
   | map es=>obtain⟨b',mes,ck,h1,h2,h3⟩:=hold; exact⟨b',mes,ck,h1,(hd b' h1).trans h2,h3⟩
   | fam f n sz o=>
    rcases hold with hold | ⟨b',cs,t,fr,h1,h2,h3⟩
    ·exact .inl hold
    ·exact .inr ⟨b',cs,t,fr,h1,(hd b' h1).trans h2,h3⟩
 ·rw [Heap.get_set H n o o0 h0] at hi hj
  split at hi <;> split at hj
  ·rename_i e1 e2; exact absurd (e1.symm.trans e2) hij
  ·rename_i e1 e2; subst e1; exact h.inj n j o0 oj h0 hr hj hij hne
  ·rename_i e1 e2; subst e2; exact h.inj i n oi o0 hi hri h0 hij hne
  ·exact h.inj i j oi oj hi hri hj hij hne
theorem p0a:Enters Tryz.prog 198:=C6 (Base.cx_ok l0u 10).2 (s0x [] [] [] 0 0 0 0)
theorem u0a {zs ys:List Int} {off n b g cap c2:Nat} {cur gs:Array Value} {t:TypeId} {fr:Nat×Nat} {w:World} (hI:J0.I w)
  (ho:off+(n+1)≤zs.length) (hzl:zs.length < 1099511627776) (hz:Dg W64 zs) (hy:Cn ys) (hn:n=ys.length) (hnl:ys.length < 274877906944) (hD:0 < val W64 ys)
  (hN:val W64 (part zs off (n+1)) < val W64 ys*W64)
  (hb:RowAt w b cur T8) (hcap:cap≤maxLen) (hcs:cur.size=cap) (hln:zs.length≤cap) (htk:cur.toList.take zs.length=zs.map (Value.int .u64))
  (hg:w.heap[g]? =some (.cells gs t fr)) (hgs:∀ i,i < ys.length→gs[i]? =some (.int .u64 (ys.getD i 0))) (hne:b≠g) (hbg:Tryz.prog.globals.size≤b):
  Calls Tryz.prog 198 ⟨[.slice (some ⟨b,off,none⟩) (n+1) (cap-off), .slice (some ⟨g,0,none⟩) n (c2-0)]⟩ w fun e w'=>
   e= .returned (.int .u64 (p0q zs ys off (n+1)))∧Keeps w.heap.size (fun k=>k=b) w w'∧∃ cur',RowAt w' b cur' T8∧cur'.size=cap∧cur'.toList.take zs.length=(b0i zs ys off (n+1)).map (Value.int .u64):=by
 have hp:Par Tryz.prog w.heap.size (fun k=>k=b):=⟨hI.1,fun k hk e=>by omega⟩
 have hG:Tryz.prog.globals.size=11:=by kernel_rfl
 obtain⟨hX,_⟩:=Base.cx_ok l0u 10
 have hS:∀ ρ':Num,Agree 15 (fun i=>if i=11 then some b else if i=12 then some cap else if i=13 then some g else if i=14 then some c2 else some i) ρ'→Sim Tryz.prog w.heap.size (fun k=>k=b) ρ' (y0t zs ys) w∧([.slice (some ⟨b,off,none⟩) (n+1) (cap-off), .slice (some ⟨g,0,none⟩) n (c2-0)] :List Value)=rvL ρ' (k1e off (n+1) n):=by
  intro ρ' ha
  have h11:ρ' 11=some b:=by rw [ha 11 (by omega)]; simp
  have h12:ρ' 12=some cap:=by rw [ha 12 (by omega)]; simp
  have h13:ρ' 13=some g:=by rw [ha 13 (by omega)]; simp
  have h14:ρ' 14=some c2:=by rw [ha 14 (by omega)]; simp
  refine⟨⟨fun k hk=>by
   rw [ha k (by omega)]
   show (if k=11 then some b else if k=12 then some cap else if k=13 then some g else if k=14 then some c2 else some k)=some k
   rw [if_neg (by omega),if_neg (by omega),if_neg (by omega),if_neg (by omega)],fun i o hi=> ?_,fun i j o o' hi hr hj hij hnn=> ?_⟩,?_⟩
  ·rw [Heap.get_cons] at hi
   split at hi
   ·rename_i e
    subst e
    cases hi
    rw [h11]
    refine .inr ⟨b,cap,cur,rfl,h12,hb, .inr rfl,hcap,by omega,?_,?_⟩
    ·simp only [Row.list,List.length_map,Nat.mul_one]; exact hln
    ·simp only [Row.list,List.length_map]; rw [O1]; exact htk
   ·rw [Heap.get_cons] at hi
    split at hi
    ·rename_i e
     subst e
     cases hi
     rw [h13]
     exact .inr ⟨g,gs,t,fr,rfl,hg,hgs⟩
    ·simp [Heap.get] at hi
  ·rw [Heap.get_cons] at hi hj
   split at hi
   ·rename_i e
    subst e
    split at hj
    ·rename_i e; exact absurd e hij
    ·rw [Heap.get_cons] at hj
     split at hj
     ·rename_i e
      subst e
      rw [h11,h13]
      intro e
      exact hne (Option.some.inj e)
     ·simp [Heap.get] at hj
   ·rw [Heap.get_cons] at hi
    split at hi
    ·cases hi; cases hr
    ·simp [Heap.get] at hi
  ·simp only [rvL,rv,rSl,h11,h12,h13,h14,Option.getD_some]
 obtain⟨bit,r,hev,hobs,hv,hh,hrn⟩:=l1h ho hzl hz hy hn hnl hD hN
 refine (F2 hX progOk.mixed hev hobs hp (Nat.le_refl _) hI hS).2.mono fun e w' ⟨ρ1,v,ha,he,hk,hfin⟩=> ?_
 obtain⟨hv1,hS1⟩:=hfin ρ1 (Agree.refl _ _)
 have h11:ρ1 11=some b:=by rw [ha 11 (by omega)]; simp
 have h12:ρ1 12=some cap:=by rw [ha 12 (by omega)]; simp
 refine⟨by rw [he,hv1,hv]; rfl,hk,?_⟩
 rw [hh] at hS1
 rcases hS1.obj 11 _ rfl with ⟨q1,_⟩ | ⟨b',cap',cur',q1,q2,q3,_,_,q6,q7,q8⟩
 ·rw [h11] at q1; cases q1
 ·rw [h11] at q1
  rw [h12] at q2
  cases q1
  cases q2
  simp only [Row.list,List.length_map] at q8
  rw [O1,fB ys ho] at q8
  exact⟨cur',q3,by omega,q8⟩
theorem d1u {H:Heap} {k:IntKind} {x:Value} {xs:List Int} {l:List Prop} {id:Nat} (h:j1x H k x=some (xs,l)) (hx:∃ kk n c,x= .slice (some ⟨id,0,some kk⟩) n c):∃ o,H.get id=some o:=by
 unfold j1x at h
 split at h
 ·obtain⟨_,_,_,e⟩:=hx; cases e
 ·obtain⟨_,_,_,e⟩:=hx
  cases e
  cases hq:H.get id with
  | none=>rw [hq] at h; cases h
  | some o=>exact⟨o,rfl⟩
 ·obtain⟨_,_,_,e⟩:=hx; cases e
 ·cases h
def x1u (zs ys:List Int) (off m:Nat):Prop:=val W64 (part zs off m) < val W64 ys*W64
def oX (args:List Value) (H:Heap) (n:Nat) (ds:List Bool):Option CR:=
 match args with
 | [.slice (some ⟨id,off,some kk⟩) m c, .slice (some ⟨id2,0,some kk2⟩) k c2] =>match H.get id with
  | some (.row e sz (.ints .u64 zs) kk')=>match Nat.beq kk kk' && Nat.beq sz 1 && Nat.beq e T8 && !Nat.beq id id2 with
   | true=>match j1x H .u64 (.slice (some ⟨id2,0,some kk2⟩) k c2) with
    | some (ys,l)=>some ⟨.int .u64 (p0q zs ys off m),H.set id (.row T8 1 (.ints .u64 (b0i zs ys off m)) kk),n,
     [off=c∧m=ys.length+1,off+m≤zs.length∧zs.length < 1099511627776,Dg W64 zs,Cn ys,ys.length < 274877906944,0 < val W64 ys,x1u zs ys off m] ++l,ds⟩
    | none=>none
   | false=>none
  | _=>none
 | _=>none
theorem b0f:aN Tryz.prog J0 198 oX:=by
 intro args H n ds r h hl
 unfold oX at h
 split at h
 case h_2=>cases h
 rename_i id off kk m c id2 kk2 k c2
 split at h
 case h_2=>cases h
 rename_i e sz zs kk' hget
 split at h
 case h_2=>cases h
 rename_i hc
 simp only [Bool.and_eq_true,Nat.beq_eq,Bool.not_eq_true'] at hc
 obtain⟨⟨⟨rfl,rfl⟩,rfl⟩,hid0⟩:=hc
 have hid:id≠id2:=fun e=>by subst e; rw [Nat.beq_refl] at hid0; cases hid0
 split at h
 case h_2=>cases h
 rename_i ys l hsl
 cases h
 obtain⟨hl1,hl2⟩:=(l6 _ _).1 hl
 obtain⟨⟨rfl,rfl⟩,⟨ho,hzl⟩,hz,hy,hnl,hD,hN,_⟩:=hl1
 refine⟨Nat.le_refl _,p0a,fun B M ρ w vs hp hB hI hS=> ?_⟩
 have key:∀ ρ',Agree n ρ ρ'→∃ b g cap c2' cur gs t fr,ρ' id=some b∧ρ' kk=some cap∧RowAt w b cur T8∧(B≤b∨M b)∧cap≤maxLen∧cur.size=cap∧zs.length≤cap∧cur.toList.take zs.length=zs.map (Value.int .u64)∧
   w.heap[g]? =some (.cells gs t fr)∧(∀ i,i < ys.length→gs[i]? =some (.int .u64 (ys.getD i 0)))∧b≠g∧vs=[.slice (some ⟨b,off,none⟩) (ys.length+1) (cap-off), .slice (some ⟨g,0,none⟩) ys.length (c2'-0)] :=by
  intro ρ' ha
  obtain⟨hS1,hvs⟩:=hS ρ' ha
  rcases hS1.obj id _ hget with ⟨_,g2⟩ | ⟨b,cap,cur,g1,g2,g3,g4,g5,g6,g7,g8⟩
  ·have hx:zs=[] :=by simpa [Row.list] using g2
   subst hx
   simp at ho
  ·simp only [Row.list,List.length_map,Nat.mul_one] at g6 g7 g8
   rw [O1] at g8
   rcases Z8 (e:=T8) hS1 hsl hl2 with ⟨_,q2⟩ | ⟨g,cap',cs,t,fr,q1,q2,q3⟩
   ·subst q2; simp [val] at hD
   ·have hg2:ρ' id2=some g∧k=ys.length:=by
     cases hq:ρ' id2 with
     | none=>simp [rv,rSl,hq] at q1
     | some g'=>simp [rv,rSl,hq] at q1; exact⟨by rw [q1.1],q1.2.1⟩
    have hob:∃ o2,H.get id2=some o2:=d1u hsl ⟨_,_,_,rfl⟩
    obtain⟨o2,ho2⟩:=hob
    have hbg:b≠g:=fun e=>by
     subst e
     exact hS1.inj id id2 _ o2 hget rfl ho2 hid (by rw [g1]; simp) (g1.trans hg2.1.symm)
    cases hq2:ρ' kk2 with
    | none=>
     refine⟨b,g,cap,0,cur,cs,t,fr,g1,g2,g3,g4,g5,g6,g7,g8,q2,q3,hbg,?_⟩
     rw [hvs]
     simp [rvL,rv,rSl,g1,g2,hg2.1,hg2.2,hq2]
    | some c2'=>
     refine⟨b,g,cap,c2'-c2,cur,cs,t,fr,g1,g2,g3,g4,g5,g6,g7,g8,q2,q3,hbg,?_⟩
     rw [hvs]
     simp [rvL,rv,rSl,g1,g2,hg2.1,hg2.2,hq2]
 obtain⟨b,g,cap,c2',cur,gs,t,fr,k1,k2,k3,k4,k5,k6,k7,k8,k9,k10,k11,k12⟩:=key ρ (Agree.refl _ _)
 have hbg:Tryz.prog.globals.size≤b:=by
  rcases k4 with h | h
  ·have:=hp.glo; omega
  ·rcases Nat.lt_or_ge b Tryz.prog.globals.size with h' | h'
   ·exact absurd h (hp.free b h')
   ·exact h'
 rw [k12]
 refine (u0a (c2:=c2') hI ho hzl hz hy rfl hnl hD hN k3 k5 k6 k7 k8 k9 k10 k11 hbg).mono fun e w' ⟨he,hkp,cur',r1,r2,r3⟩=> ?_
 refine⟨ρ,_,Agree.refl _ _,he,⟨hkp.os,hkp.tape,hkp.output,hkp.size,fun q hq hm=>hkp.block q (by omega) fun e=> ?_⟩,fun ρ' ha=>⟨rfl,?_⟩⟩
 ·subst e
  rcases k4 with h | h
  ·omega
  ·exact hm h
 ·obtain⟨b1,g1,cap1,c21,cur1,gs1,t1,fr1,j1,j2,j3,j4,j5,j6,j7,j8,j9,j10,j11,j12⟩:=key ρ' ha
  have eb:b1=b:=by
   rw [k12] at j12
   simp at j12
   exact j12.1.1.symm
  subst eb
  have ecur:cur1=cur:=by
   obtain⟨f1,a1,_⟩:=j3
   obtain⟨f2,a2,_⟩:=k3
   rw [a1] at a2
   cases a2
   rfl
  subst ecur
  have ecap:cap1=cap:=j6.symm.trans k6
  subst ecap
  refine Sim.turn' (hS ρ' ha).1 hget rfl j1 (.inr ⟨b1,cap1,cur',rfl,j2,r1,k4,k5,by omega,?_,?_⟩) fun q hq hne=>hkp.block q hq hne
  ·simp only [Row.list,List.length_map,Nat.mul_one]
   rw [fB ys ho]
   exact k7
  ·simp only [Row.list,List.length_map]
   rw [O1,fB ys ho]
   exact r3
noncomputable def u0m:kM:=l5 141 dP (l5 86 (y3 [shV] kG) (l5 89 (y3 [shI,shI] yG)
 (l5 197 (y3 [shW,shW] S9) (l5 202 (y3 [shW,shW] cW) (l5 201 (y3 [shW,shW] kN)
 (l5 151 (y3 [shI,shI] f0s) (l5 143 (y3 [shI,shV] oQ) (l5 87 (y3 [shI,shV] xU)
 (l5 199 (y3 [shI,shV] mS) (l5 168 (y3 [shI] yO) (l5 130 (y3 [shI] h0i)
 (l5 198 oX C4))))))))))))
theorem a0p:kY Tryz.prog J0 u0m:=b8 bK (b8 (g9 _ nV) (b8 (g9 _ tD)
 (b8 (g9 _ aF) (b8 (g9 _ gZ) (b8 (g9 _ mI)
 (b8 (g9 _ o0r) (b8 (g9 _ c0x) (b8 (g9 _ f0t)
 (b8 (g9 _ b0w) (b8 (g9 _ h0m) (b8 (g9 _ o0w)
 (b8 b0f (m6 _ _)))))))))))))
noncomputable def bW6:Base:=⟨Tryz.prog,J0,false,n0g,u0m,200,H8⟩
theorem T6:BaseOk bW6:=⟨progOk,dV,a0p,i7⟩
noncomputable abbrev XW6:Cx:=bW6.cx 10
def b2k (P:Program) (J:Inv P) (f:FuncId) (az:List Arg) (F:List Value→Value):Prop:=
 Enters P f∧∀ (w:World) (us:List Value),J.I w→All2 (CelIs w) (n9 az) us→Calls P f ⟨F3 az us⟩ w fun e w'=>e= .returned (F us)∧Below w.heap.size w w'
theorem o1t {b:Base} (hb:BaseOk b) (k:Nat) (L:O3) (ds:List Bool) {f:FuncId} {az:List Arg} {F:List Value→Value} {r:CR}
  (h:k0a (b.cx k) L b.fuel f (F3 az (E4 (b.cx k).P.globals.size (n9 az)).1) (E4 (b.cx k).P.globals.size (n9 az)).2.1 (E4 (b.cx k).P.globals.size (n9 az)).2.2 ds=some r) (hl:d5 r.obs)
  (hF:∀ ρ,rv ρ r.v=F (rvL ρ (E4 (b.cx k).P.globals.size (n9 az)).1)):b2k b.P b.J f az F:=by
 obtain⟨hX,hng⟩:=Base.cx_ok hb k
 suffices hs:b2k (b.cx k).P (b.cx k).J f az F by
  cases k <;> exact hs
 generalize b.cx k=X at*
 refine⟨C6 hng h,fun w us hI hA=> ?_⟩
 obtain⟨ρ,ha,hρ⟩:=r0m w.heap.size (fun _=>False) w (n9 az) us hA X.P.globals.size (fun i=>some i)
 have hp:Par X.P w.heap.size (fun _=>False):=⟨X.J.room w hI,fun _ _ h=>h⟩
 have hlen:(E4 X.P.globals.size (n9 az)).1.length=(n9 az).length:=by
  have:=congrArg List.length (hρ ρ (Agree.refl _ _)).1
  rw [O4] at this
  rw [← this,hA.length]
 have hS:∀ ρ',Agree (E4 X.P.globals.size (n9 az)).2.2 ρ ρ'→Sim X.P w.heap.size (fun _=>False) ρ' (E4 X.P.globals.size (n9 az)).2.1 w∧F3 az us=rvL ρ' (F3 az (E4 X.P.globals.size (n9 az)).1):=by
  intro ρ' ha'
  obtain⟨h1,h2⟩:=hρ ρ' ha'
  have hle:=H9 (n9 az) X.P.globals.size
  refine⟨⟨fun g hg=>by rw [ha' g (by omega),ha g hg],h2,fun i j o o' hi hr _ _=> ?_⟩,?_⟩
  ·rw [(Y5 _ _ _ _ hi).2.2] at hr
   cases hr
  ·rw [kH ρ' az _ hlen,← h1]
 have:=F2 hX hng.mixed h hl hp (Nat.le_refl _) hI hS
 refine this.2.mono fun e w' ⟨ρ1,v,ha1,he,hk,hfin⟩=> ?_
 obtain⟨hv,hsim⟩:=hfin ρ1 (fun _ _=>rfl)
 refine⟨?_,hk.below⟩
 rw [he,hv,hF,← (hρ ρ1 ha1).1]
def wQ (s1 s2:List Value→Heap→Nat→List Bool→Option CR) (args:List Value) (H:Heap) (n:Nat) (ds:List Bool):Option CR:=
 match ds with
 | true ::r=>s1 args H n r
 | false ::r=>s2 args H n r
 | [] =>none
theorem tU {P:Program} {J:Inv P} {f:FuncId} {s1 s2:List Value→Heap→Nat→List Bool→Option CR} (h1:aN P J f s1) (h2:aN P J f s2):aN P J f (wQ s1 s2):=by
 intro args H n ds r h hl
 unfold wQ at h
 split at h
 ·exact h1 _ _ _ _ _ h hl
 ·exact h2 _ _ _ _ _ h hl
 ·cases h
end Go.Proofs.YtdgfhijnconaoaaGreatDoor
