/-
 NumberRises: of two texts the one with the greater value is never read as the lesser number; no condition (a part of the proof).
-/
import Derived.Test.YtdgfhijnconaoaaGreatDoorR1x03
namespace Go.Proofs.YtdgfhijnconaoaaGreatDoor.Ev
open Go Go.RowKit Go.Shelf
noncomputable section
abbrev Ren:=List (Nat×Nat)
def Ren.to:Ren→Nat→Nat
 | [],i=>i
 | (j,k) ::r,i=>match Nat.beq j i with
  | true=>k
  | false=>Ren.to r i
def rnFn (σ:Ren):Fn→Fn
 | .yield l=> .yield (σ.to l)
 | f=>f
mutual
def rn (σ:Ren):Value→Value
 | .pointer (some a)=> .pointer (some { a with block:=σ.to a.block })
 | .slice (some ⟨j,off,none⟩) n c=> .slice (some ⟨σ.to j,off,none⟩) n c
 | .slice (some ⟨j,off,some k⟩) n c=> .slice (some ⟨σ.to j,off,some (σ.to k)⟩) n c
 | .map (some r)=> .map (some (σ.to r))
 | .func fn f c=> .func (rnFn σ fn) (rnA σ f) (rnA σ c)
 | .iface t v=> .iface t (rn σ v)
 | .agg cs=> .agg (rnA σ cs)
 | .tuple vs=> .tuple (rnA σ vs)
 | .bool b=> .bool b
 | .int k n=> .int k n
 | .float k n=> .float k n
 | .complex k a b=> .complex k a b
 | .string s=> .string s
 | .pointer none=> .pointer none
 | .slice none n c=> .slice none n c
 | .map none=> .map none
 | .chan r=> .chan r
 | .nilFunc=> .nilFunc
 | .nilIface=> .nilIface
def rnA (σ:Ren):Array Value→Array Value
 | ⟨l⟩=>⟨rnL σ l⟩
def rnL (σ:Ren):List Value→List Value
 | [] =>[]
 | v ::l=>rn σ v ::rnL σ l
end
theorem rnL_length (σ:Ren):∀ l:List Value,(rnL σ l).length=l.length
 | [] =>by simp [rnL]
 | v ::l=>by simp [rnL,rnL_length σ l]
theorem rFn_rn (ρ:Num) (σ:Ren) (f:Fn):rFn ρ (rnFn σ f)=rFn (fun i=>ρ (σ.to i)) f:=by
 cases f <;> rfl
mutual
def noE:Value→Bool
 | .chan (some _)=>false
 | .complex _ _ _=>false
 | .func _ f c=>noEA f && noEA c
 | .iface _ v=>noE v
 | .agg cs=>noEA cs
 | .tuple vs=>noEA vs
 | _=>true
def noEA:Array Value→Bool
 | ⟨l⟩=>noEL l
def noEL:List Value→Bool
 | [] =>true
 | v ::l=>noE v && noEL l
end
mutual
theorem rv_rn (ρ:Num) (σ:Ren):∀ v:Value,noE v=true→rv ρ (rn σ v)=rv (fun i=>ρ (σ.to i)) v
 | .pointer (some a),_=>by simp [rv,rn,rAddr]
 | .slice (some ⟨j,off,none⟩) n c,_=>by simp [rv,rn,rSl,rAddr]
 | .slice (some ⟨j,off,some k⟩) n c,_=>by simp [rv,rn,rSl]
 | .map (some r),_=>by simp [rv,rn]
 | .func fn f c,h=>by simp only [noE,Bool.and_eq_true] at h; simp only [rv,rn,rFn_rn,rvA_rn ρ σ f h.1,rvA_rn ρ σ c h.2]
 | .iface t v,h=>by simp only [noE] at h; simp only [rv,rn,rv_rn ρ σ v h]
 | .agg cs,h=>by simp only [noE] at h; simp only [rv,rn,rvA_rn ρ σ cs h]
 | .tuple vs,h=>by simp only [noE] at h; simp only [rv,rn,rvA_rn ρ σ vs h]
 | .bool _,_=>by simp only [rv,rn]
 | .int _ _,_=>by simp only [rv,rn]
 | .float _ _,_=>by simp only [rv,rn]
 | .complex _ _ _,h=>by simp only [noE] at h; cases h
 | .string _,_=>by simp only [rv,rn]
 | .pointer none,_=>by simp only [rv,rn]
 | .slice none _ _,_=>by simp only [rv,rn]
 | .map none,_=>by simp only [rv,rn]
 | .chan none,_=>by simp only [rv,rn]
 | .chan (some _),h=>by simp only [noE] at h; cases h
 | .nilFunc,_=>by simp only [rv,rn]
 | .nilIface,_=>by simp only [rv,rn]
theorem rvA_rn (ρ:Num) (σ:Ren):∀ v:Array Value,noEA v=true→rvA ρ (rnA σ v)=rvA (fun i=>ρ (σ.to i)) v
 | ⟨l⟩,h=>by simp only [noEA] at h; simp only [rvA,rnA,rvL_rn ρ σ l h]
theorem rvL_rn (ρ:Num) (σ:Ren):∀ v:List Value,noEL v=true→rvL ρ (rnL σ v)=rvL (fun i=>ρ (σ.to i)) v
 | [],_=>by simp only [rvL,rnL]
 | v ::l,h=>by simp only [noEL,Bool.and_eq_true] at h; simp only [rvL,rnL,rv_rn ρ σ v h.1,rvL_rn ρ σ l h.2]
end
def layOp:Op→Bool
 | .alloc _=>true
 | .box _ _=>true
 | .buildSlice _ _ _=>true
 | .range _ _=>true
 | .makeMap _ none=>true
 | _=>false
theorem evOp_lay {P:Program} {auto:Bool} {ev:Operand→Option Value} {o:Oper} {n:Nat} {ds:List Bool} {r:R} (hlay:layOp o.op=true) (h:evOp P auto ev o [] n ds=some r):
  ∃ ob,r.h=[(n,ob)] ∧r.obs=[] ∧r.ds=ds∧∀ H,evOp P auto ev o H n ds=some ⟨r.v,(n,ob) ::H,[],ds⟩:=by
 unfold evOp at h ⊢
 cases ho:o.op with
 | alloc t=>
  rw [ho] at h
  simp only at h ⊢
  split at h
  ·rename_i z hz; cases h; exact⟨_,rfl,rfl,rfl,fun _=>rfl⟩
  ·cases h
 | box t x=>
  rw [ho] at h
  simp only at h ⊢
  split at h
  ·rename_i z hz; cases h; exact⟨_,rfl,rfl,rfl,fun _=>rfl⟩
  ·cases h
 | buildSlice t len ps=>
  rw [ho] at h
  simp only at h ⊢
  split at h
  ·rename_i l hl
   split at h
   ·rename_i e cs hz; cases h; exact⟨_,rfl,rfl,rfl,fun _=>rfl⟩
   ·cases h
  ·cases h
 | range t x=>
  rw [ho] at h
  simp only at h ⊢
  split at h
  ·rename_i s h1 h2; cases h; exact⟨_,rfl,rfl,rfl,fun _=>rfl⟩
  ·cases h
 | makeMap t x=>
  cases x with
  | none=>rw [ho] at h; cases h; exact⟨_,rfl,rfl,rfl,fun _=>rfl⟩
  | some x=>rw [ho] at hlay; cases hlay
 | _=>rw [ho] at hlay; cases hlay
theorem lay_still {o:Oper} (h:layOp o.op=true):stillOp o.op=false:=by
 cases ho:o.op <;> rw [ho] at h <;> first | (cases h; done) | rfl
theorem evBody_lay_eq {X:Cx} {q:Bool} {o:Oper} {conds:List (Nat×Bool)} {tmps:List TV} {H:Heap} {n:Nat} {ds:List Bool} (hlay:layOp o.op=true):evBody X q o conds tmps H n ds=
  match globsOk X.P o with
  | false=>none
  | true=>match evOp X.P X.auto (evo tmps conds) o H n ds with
   | some r=>match q with
    | false=>some ⟨r.v,r.h,n+1,r.obs,r.ds⟩
    | true=>none
   | none=>none:=by
 have hst:=lay_still hlay
 unfold evBody
 cases globsOk X.P o with
 | false=>rfl
 | true=>
  have hsb:s2b X.P X.auto (evo tmps conds) o.op=none:=by
   cases ho:o.op <;> rw [ho] at hlay <;> first | (cases hlay; done) | rfl
  dsimp only
  rw [hsb]
  cases ho:o.op <;> rw [ho] at hlay hst <;> first | (cases hlay; done) | (cases q <;> rfl)
theorem evBody_lay {X:Cx} {o:Oper} {conds:List (Nat×Bool)} {tmps:List TV} {n:Nat} {ds:List Bool} {r:CR} (hlay:layOp o.op=true) (h:evBody X false o conds tmps [] n ds=some r):
  ∃ ob,r.h=[(n,ob)] ∧r.ds=ds∧∀ H,evBody X false o conds tmps H n ds=some ⟨r.v,(n,ob) ::H,r.n,r.obs,r.ds⟩:=by
 rw [evBody_lay_eq hlay] at h
 split at h
 ·cases h
 ·rename_i hg
  split at h
  case h_2=>cases h
  rename_i r0 hr0
  cases h
  obtain⟨ob,e1,e2,e3,e4⟩:=evOp_lay hlay hr0
  refine⟨ob,e1,e3,fun H=> ?_⟩
  rw [evBody_lay_eq hlay,hg]
  simp only [e4 H,e2,e3]
theorem evBody_lay_q {X:Cx} {o:Oper} {conds:List (Nat×Bool)} {tmps:List TV} {H:Heap} {n:Nat} {ds:List Bool} (hlay:layOp o.op=true):evBody X true o conds tmps H n ds=none:=by
 rw [evBody_lay_eq hlay]
 split
 ·rfl
 ·split <;> rfl
theorem evEff_lay {X:Cx} {os:List Oper} {o:Oper} {tmps tmps':List TV} {n:Nat} {ds:List Bool} {kv kv':KV} {tv:TV} {r:CR} (hlay:layOp o.op=true)
  (h:evEff X false os o tmps [] n ds kv=some (tmps',kv',tv,r)):r.ds=ds∧(r.h=[] ∨∃ ob,r.h=[(n,ob)])∧∀ H,evEff X false os o tmps H n ds kv=some (tmps',kv',tv,⟨r.v,r.h++H,r.n,r.obs,r.ds⟩):=by
 rw [evEff_eq] at h
 split at h
 ·cases h
 ·rename_i hg
  cases h
  refine⟨rfl, .inl rfl,fun H=> ?_⟩
  rw [evEff_eq,hg]
  rfl
 ·rename_i conds hg
  split at h
  ·cases h
  ·rename_i r1 hand
   cases h
   rcases evAnd_some hand with ⟨r0,hb,er⟩ | ⟨_,hc,_,r0,hb,er⟩
   ·subst er
    cases hc:hasC conds with
    | true=>
     rw [hc] at hb
     rw [show (false || true)=true from rfl,evBody_lay_q hlay] at hb
     cases hb
    | false=>
     rw [hc] at hb
     obtain⟨ob,e1,e2,e3⟩:=evBody_lay hlay hb
     refine⟨e2, .inr ⟨ob,e1⟩,fun H=> ?_⟩
     rw [evEff_eq,hg]
     simp only [evAnd,hc]
     have:=e3 H
     rw [show (false || false)=false from rfl,this]
     simp only [e1]
     rfl
   ·subst er
    obtain⟨ob,e1,e2,e3⟩:=evBody_lay hlay hb
    refine⟨e2, .inr ⟨ob,e1⟩,fun H=> ?_⟩
    rw [evEff_eq,hg]
    simp only [evAnd,hc]
    rw [show (false || true)=true from rfl,evBody_lay_q hlay,e3 H]
    simp only [e1]
    rfl
theorem evBodyF_sound {X:Cx} {J:Inv X.P} (hX:CxOk X J) {q:Bool} {o:Oper} {conds:List (Nat×Bool)} {tmps:List TV} {H:Heap} {n:Nat} {ds:List Bool} {r:CR} (h:evBody X q o conds tmps H n ds=some r) (hq:q=true∨layOp o.op=true) (hl:allP r.obs)
  {B:Nat} {M:Nat→Prop} (_hp:Par X.P B M) {F:Num→Prop} {ρ:Num} (hF:F ρ) {β:Nat→Bool} (hc:V β conds) {a:Act} {w:World} (hB:B≤w.heap.size) (hI:J.I w)
  (hS:∀ ρ',F ρ'→Sim X.P B M ρ' H w) (hT:∀ ρ',F ρ'→∀ t, .tmp t∈o.op.operands.toList→TRel ρ' β (getT tmps t) (a.tmps.getD t undef)) (hnew:q=false→∀ ρ',F ρ'→ρ' n=some w.heap.size)
  {rb:Option Nat} {K:Act→World→Prop} {Q:Exit→Act→World→Prop}
  (hK:∀ v w',(∀ ρ',F ρ'→v=rv ρ' r.v∧Sim X.P B M ρ' r.h w')→Keeps B M w w'→(q=true→Below w.heap.size w w')→K (a.put o.dst v) w'):
  o.wpIn (Fl rb) 0 X.P a w K Q:=by
 unfold evBody at h
 split at h
 case h_1=>cases h
 rename_i hglob
 have hglob':∀ x∈o.op.operands.toList,∀ g,x= .global g→g < X.P.globals.size:=by
  intro x hx g e
  subst e
  have:=List.all_eq_true.1 hglob _ hx
  simpa [Nat.blt_eq] using this
 have hev:∀ ρ',F ρ'→∀ x∈o.op.operands.toList,∀ y,evo tmps conds x=some y→a.eval x=rv ρ' y:=fun ρ' ha x hx y hy=>
  evo_sound (hS ρ' ha) hc hy (fun t e=>hT ρ' ha t (e ▸ hx)) (hglob' x hx)
 have still:∀ {v:Value},(∀ ρ',F ρ'→(execOp a.eval o).run X.P w= .ok (.value (rv ρ' v)) w)→(∀ c,o.op≠ .defer c)→r.v=v→r.h=H→o.wpIn (Fl rb) 0 X.P a w K Q:=by
  intro v h1 hnd h2 h3
  refine wpIn_Fl hnd ?_
  rw [h1 ρ hF,Oper.uponIn_value]
  refine hK _ w (fun ρ' ha=>⟨?_,by rw [h3]; exact hS ρ' ha⟩) (Keeps.refl _ _ _) (fun _=>Below.refl _ _)
  have e1:=h1 ρ hF
  rw [h1 ρ' ha] at e1
  rw [h2]
  injection e1 with e1
  injection e1 with e1
  exact e1.symm
 have hsb:s2b X.P X.auto (evo tmps conds) o.op=none:=by
  rcases hq with hq | hq
  ·subst hq
   cases hsb:s2b X.P X.auto (evo tmps conds) o.op with
   | none=>rfl
   | some eb=>rw [hsb] at h; cases h
  ·cases ho:o.op <;> rw [ho] at hq <;> first | (cases hq; done) | rfl
 rw [hsb] at h
 dsimp only at h
 split at h
 ·
  rename_i c x y ho
  split at h
  case h_1=>cases h
  rename_i hng
  simp only [Bool.and_eq_true] at hng
  split at h
  case h_2=>cases h
  rename_i v hv
  cases h
  refine still (v:=v) (fun ρ' ha=> ?_) (by rw [ho]; intro c hc; cases hc) rfl rfl
  have:=evPick_sound (a:=a) (hS ρ' ha) hc hv (fun t e=>hT ρ' ha t (by
   rw [ho]; simp only [Op.operands]
   rcases e with e | e | e <;> simp [e])) hng.1 hng.2
  simp only [execOp,ho]
  exact this
 ·
  rename_i c ho
  have hq:q=true:=by
   rcases hq with hq | hq
   ·exact hq
   ·rw [ho] at hq; cases hq
  subst hq
  split at h
  ·rename_i f hcal
   split at h
   case h_3=>cases h
   case h_2=>cases h
   rename_i fid first cap args hf hargs
   have hfm:f∈o.op.operands.toList:=by rw [ho]; simp [Op.operands,Call.operands,hcal]
   have ham:∀ x∈c.args.toList,x∈o.op.operands.toList:=fun x hx=>by rw [ho]; simp [Op.operands,Call.operands,hcal]; exact .inr (by simpa using hx)
   have hrunx:∀ ρ',F ρ'→(execOp a.eval o).run X.P w=(callFunc fid ⟨rvL ρ' (first++args++cap)⟩).run X.P w:=by
    intro ρ' ha
    have e1:=hev ρ' ha f hfm _ hf
    have e2:=evArgs_sound (a:=a.eval) (ρ:=ρ') c.args.toList args (fun x hx y hy=>hev ρ' ha x (ham x hx) y hy) hargs
    have e3:c.args.map a.eval=⟨rvL ρ' args⟩:=by apply Array.ext'; simpa using e2
    simp only [execOp,ho,resolve,hcal,e1,e3,rv,rvA,rFn,Deferred.ofValue,pure_bind,invoke]
    have e4:((⟨rvL ρ' first⟩:Array Value)++(⟨rvL ρ' args⟩:Array Value)++(⟨rvL ρ' cap⟩:Array Value))=⟨rvL ρ' (first++args++cap)⟩:=by
     simp [rvL_eq]
    rw [e4]
   have hrun:∀ ρ',F ρ'→Enters X.P fid→(execOp a.eval o).run X.P w= .ok (.enter fid ⟨rvL ρ' (first++args++cap)⟩) w:=by
    intro ρ' ha hent
    rw [hrunx ρ' ha]
    exact hent _ _
   split at h
   case h_2=>cases h
   rename_i v l hpc
   cases h
   obtain⟨hpl,hpv,⟨hent,hcalls⟩ | hext⟩:=hX.pc _ _ _ _ hpc hl
   ·refine wpIn_Fl (by rw [ho]; intro c hc; cases hc) ?_
    rw [hrun ρ hF hent,Oper.uponIn_enter,rvL_pure ρ _ hpl]
    refine⟨fun h=>(by cases h),callsIn_Fl ((hcalls w hI).mono fun e w' ⟨he,hb⟩=> ?_)⟩
    subst he
    refine hK v w' (fun ρ' ha=>⟨(rv_pure ρ' v hpv).symm,(hS ρ' ha).below hb⟩) (Keeps.of_below hb hB) (fun _=>hb)
   ·refine wpIn_Fl (by rw [ho]; intro c hc; cases hc) ?_
    rw [hrunx ρ hF,rvL_pure ρ _ hpl,hext w hI,Oper.uponIn_value]
    exact hK v w (fun ρ' ha=>⟨(rv_pure ρ' v hpv).symm,hS ρ' ha⟩) (Keeps.refl _ _ _) (fun _=>Below.refl _ _)
  ·rename_i b hcal
   split at h
   case h_2=>cases h
   rename_i args hargs
   split at h
   ·cases h
   split at h
   ·cases h
   have ham:∀ x∈c.args.toList,x∈o.op.operands.toList:=fun x hx=>by rw [ho]; simp [Op.operands,Call.operands,hcal]; simpa using hx
   have e3:∀ ρ',F ρ'→c.args.map a.eval=⟨rvL ρ' args⟩:=fun ρ' ha=>by
    have e2:=evArgs_sound (a:=a.eval) (ρ:=ρ') c.args.toList args (fun x hx y hy=>hev ρ' ha x (ham x hx) y hy) hargs
    apply Array.ext'; simpa using e2
   split at h
   ·rename_i v hv
    cases h
    refine still (v:=v) (fun ρ' ha=> ?_) (by rw [ho]; intro c hc; cases hc) rfl rfl
    simp only [execOp,ho,resolve,hcal,e3 ρ' ha,pure_bind,invoke]
    exact evBuiltin_sound hv ρ' w _ _
   ·split at h
    case h_2=>cases h
    rename_i v hv
    cases h
    refine still (v:=v) (fun ρ' ha=> ?_) (by rw [ho]; intro c hc; cases hc) rfl rfl
    simp only [execOp,ho,resolve,hcal,e3 ρ' ha,pure_bind,invoke]
    exact evLook_sound (hS ρ' ha) hv _ _ _
  ·cases h
 ·
  split at h
  case h_2=>cases h
  rename_i r0 hr0
  have hrr:r.v=r0.v∧r.h=r0.h∧r.obs=r0.obs∧(q=true→stillOp o.op=true):=by
   split at h
   ·rename_i hst
    cases h
    refine⟨rfl,?_,rfl,fun _=>hst⟩
    have:=evOp_sound (a:=a.eval) (hS ρ hF) hB (fun hs=>by rw [hst] at hs; cases hs) (fun x hx y hy=>hev ρ hF x hx y hy) hr0 hl
    obtain⟨_,_,_,_,_,_,h5⟩:=this
    exact (h5 hst).1.symm
   ·split at h
    ·cases h; exact⟨rfl,rfl,rfl,fun h=>by cases h⟩
    ·cases h
  obtain⟨e1,e2,e3,e4⟩:=hrr
  rw [e3] at hl
  have each:∀ ρ',F ρ'→_:=fun ρ' ha=>
   evOp_sound (a:=a.eval) (hS ρ' ha) hB (fun hs=>by
    cases q with
    | true=>rw [e4 rfl] at hs; cases hs
    | false=>exact hnew rfl ρ' ha) (fun x hx y hy=>hev ρ' ha x hx y hy) hr0 hl
  obtain⟨nx,w',h1,h2,h3,h4,h5⟩:=each ρ hF
  have all:∀ ρ',F ρ'→NextVal nx (rv ρ' r0.v)∧Sim X.P B M ρ' r0.h w':=by
   intro ρ' ha
   obtain⟨nx2,w2,g1,g2,g3,_⟩:=each ρ' ha
   rw [h1] at g1
   cases g1
   exact⟨g2,g3⟩
  refine wpIn_Fl (evOp_nodefer hr0) ?_
  rw [e1,e2] at hK
  have hbel:q=true→Below w.heap.size w w':=fun hq'=>by rw [(h5 (e4 hq')).2.2]; exact Below.refl _ _
  rcases h2 with hnx | ⟨hnx,hu⟩
  ·rw [h1,hnx,Oper.uponIn_value]
   refine hK _ w' (fun ρ' ha=>⟨?_,(all ρ' ha).2⟩) h4 hbel
   rcases (all ρ' ha).1 with e | ⟨e,_⟩
   ·rw [hnx] at e; injection e
   ·rw [hnx] at e; cases e
  ·rw [h1,hnx,Oper.uponIn_skip]
   refine hK _ w' (fun ρ' ha=>⟨?_,(all ρ' ha).2⟩) h4 hbel
   rcases (all ρ' ha).1 with e | ⟨_,e⟩
   ·rw [hnx] at e; cases e
   ·exact e.symm
theorem evEffF_sound {X:Cx} {J:Inv X.P} (hX:CxOk X J) {q:Bool} {os:List Oper} {i:Nat} {o:Oper} (hi:os[i]? =some o) {tmps tmps':List TV} {H:Heap} {n:Nat} {ds:List Bool} {kv kv':KV} {tv:TV} {r:CR}
  (h:evEff X q os o tmps H n ds kv=some (tmps',kv',tv,r)) (hq:q=true∨layOp o.op=true) (hl:allP r.obs)
  {B:Nat} {M:Nat→Prop} (hp:Par X.P B M) {F:Num→Prop} {ρ:Num} (hF:F ρ) {Cβ:(Nat→Bool)→Prop} (hne:∃ β,Cβ β) (hCβ:∀ β,Cβ β→KVok kv' β) {a:Act} {w:World} (hB:B≤w.heap.size) (hI:J.I w)
  (hS:∀ ρ',F ρ'→Sim X.P B M ρ' H w) (hT:∀ ρ',F ρ'→∀ β,Cβ β→∀ t∈looks os o,TRel ρ' β (getT tmps t) (a.tmps.getD t undef)) (hnew:q=false→∀ ρ',F ρ'→ρ' n=some w.heap.size)
  {rb:Option Nat} {K:Act→World→Prop} {Q:Exit→Act→World→Prop}
  (hK:∀ v w',(∀ ρ',F ρ'→Sim X.P B M ρ' r.h w'∧∀ β,Cβ β→TRel ρ' β tv v)→Keeps B M w w'→(q=true→Below w.heap.size w w')→K (a.put o.dst v) w'):
  wpOpIn (Fl rb) 0 X.P ⟨os⟩ Q i K a w:=by
 have hoi:(⟨os⟩:Array Oper)[i]? =some o:=by simpa using hi
 unfold wpOpIn
 rw [hoi]
 simp only []
 obtain⟨β0,hβ0⟩:=hne
 rw [evEff_eq] at h
 split at h
 ·cases h
 ·
  rename_i tmps1 kv1 conds1 hg
  cases h
  have g:=evGuard_sound hg (hCβ β0 hβ0) (fun t ht _=>hT ρ hF β0 hβ0 t ht)
  rw [if_neg (by rw [g.2.1 rfl]; simp)]
  refine⟨about_Fl,?_⟩
  exact hK undef w (fun ρ' ha=>⟨hS ρ' ha,fun β _=>(rv_undef ρ').symm⟩) (Keeps.refl _ _ _) (fun _=>Below.refl _ _)
 ·rename_i tmps1 kv1 conds hg
  split at h
  ·cases h
  ·rename_i r1 hand
   cases h
   have g:∀ ρ',F ρ'→∀ β,Cβ β→_:=fun ρ' ha β hβ=>evGuard_sound hg (hCβ β hβ) (fun t ht _=>hT ρ' ha β hβ t ht)
   have hw:∀ β,Cβ β→(Region.wanted o (yielded ⟨os⟩ a.tmps)=true↔V β conds):=fun β hβ=>(g ρ hF β hβ).2.2.1 rfl
   have run:∀ (q':Bool) (r0:CR),(q'=true∨layOp o.op=true)→(q=true→q'=true)→(q'=false→q=false)→r.v=r0.v→r.h=r0.h→evBody X q' o conds tmps' H n ds=some r0→allP r0.obs→V β0 conds→
     (if Region.wanted o (yielded ⟨os⟩ a.tmps)=true then o.wpIn (Fl rb) 0 X.P a w K Q else (∀ f,o.about X.P w a.eval=some f→(Fl rb).fn f)∧K (a.put o.dst undef) w):=by
    intro q' r0 hqq hq1 hq2 e1 e2 hb hl0 hV
    have hwt:=(hw β0 hβ0).2 hV
    rw [if_pos hwt]
    refine evBodyF_sound hX hb hqq hl0 hp hF (β:=β0) hV hB hI hS (fun ρ' ha t ht=> ?_) (fun h=>hnew (hq2 h)) (fun v w' hfin hk hbl=> ?_)
    ·exact ((g ρ' ha β0 hβ0).2.2.2 t _).1 (hT ρ' ha β0 hβ0 t (operand_looks ht))
    ·refine hK v w' (fun ρ' ha'=> ?_) hk (fun hq'=>hbl (hq1 hq'))
     rw [e2,e1]
     refine⟨(hfin ρ' ha').2,fun β hβ=> ?_⟩
     have hVβ:=(hw β hβ).1 hwt
     unfold resT
     split
     ·exact (hfin ρ' ha').1
     ·exact⟨fun _=>(hfin ρ' ha').1,fun hn=>absurd hVβ hn⟩
   rcases evAnd_some hand with ⟨r0,hb,er⟩ | ⟨hq0,hc,_,r0,hb,er⟩
   ·subst er
    by_cases hV:V β0 conds
    ·exact run _ r0 (by rcases hq with hq | hq; exact .inl (by simp [hq]); exact .inr hq) (fun h=>by simp [h]) (fun h=>by cases q <;> simp_all) rfl rfl hb (wrapObs_sound (hCβ β0 hβ0) hV hl) hV
    ·have hwt:Region.wanted o (yielded ⟨os⟩ a.tmps)=false:=by
      cases hw':Region.wanted o (yielded ⟨os⟩ a.tmps)
      ·rfl
      ·exact absurd ((hw β0 hβ0).1 hw') hV
     have hcne:conds≠[] :=fun e=>by subst e; exact hV (V_nil _)
     have hq1:(q || hasC conds)=true:=by
      cases conds with
      | nil=>exact absurd rfl hcne
      | cons _ _=>simp [hasC]
     rw [hq1] at hb
     obtain⟨e1,e2,e3⟩:=evBody_quiet hb
     rw [if_neg (by rw [hwt]; simp)]
     refine⟨about_Fl,?_⟩
     refine hK undef w (fun ρ' ha=>⟨?_,fun β hβ=> ?_⟩) (Keeps.refl _ _ _) (fun _=>Below.refl _ _)
     ·show Sim X.P B M ρ' r0.h w
      rw [e1]
      exact hS ρ' ha
     ·unfold resT
      split
      ·exact absurd rfl hcne
      ·refine⟨fun hv=> ?_,fun _=>rfl⟩
       have:=(hw β hβ).2 hv
       rw [hwt] at this
       cases this
   ·subst er
    have hlay:layOp o.op=true:=hq.elim (fun h=>by rw [hq0] at h; cases h) id
    exact run false r0 (.inr hlay) (fun h=>by rw [hq0] at h; cases h) (fun _=>hq0) rfl rfl hb hl.2 (condH_of (hCβ β0 hβ0) hl.1)
mutual
def numsV:Value→List Nat→List Nat
 | .pointer (some a),l=>a.block ::l
 | .slice (some a) _ _,l=>a.block ::l
 | .map (some r),l=>r ::l
 | .func _ f c,l=>numsA f (numsA c l)
 | .iface _ v,l=>numsV v l
 | .agg cs,l=>numsA cs l
 | .tuple vs,l=>numsA vs l
 | _,l=>l
def numsA:Array Value→List Nat→List Nat
 | ⟨x⟩,l=>numsL x l
def numsL:List Value→List Nat→List Nat
 | [],l=>l
 | v ::r,l=>numsV v (numsL r l)
end
def numsO:AObj→List Nat→List Nat
 | .cells cs _,l=>numsL cs l
 | .row _ _ (.vals xs) _,l=>numsL xs l
 | .ro xs,l=>numsL xs l
 | _,l=>l
def closeN (H:Heap):Nat→List Nat→List Nat→List Nat
 | 0,_,acc=>acc
 | f+1,work,acc=>match work with
  | [] =>acc
  | x ::r=>match memN x acc with
   | true=>closeN H f r acc
   | false=>match H.get x with
    | some o=>closeN H f (numsO o r) (x ::acc)
    | none=>closeN H f r acc
def roOf (H:Heap):List Nat→Heap
 | [] =>[]
 | j ::r=>match H.get j with
  | some o=>match roO o with
   | some o'=>(j,o') ::roOf H r
   | none=>roOf H r
  | none=>roOf H r
theorem roOf_get {H:Heap} :∀ {l:List Nat} {j:Nat} {o':AObj},(roOf H l).get j=some o'→∃ o,H.get j=some o∧roO o=some o'
 | [],j,o',h=>by simp [roOf,Heap.get] at h
 | i ::r,j,o',h=>by
  unfold roOf at h
  split at h
  ·rename_i o ho
   split at h
   ·rename_i o2 hr
    rw [Heap.get_cons] at h
    split at h
    ·rename_i e; subst e; cases h; exact⟨o,ho,hr⟩
    ·exact roOf_get h
   ·exact roOf_get h
  ·exact roOf_get h
def allHp (p:Nat→Bool):Heap→Bool
 | [] =>true
 | (j,o) ::r=>p j && allO p o && allHp p r
theorem allHp_get {p:Nat→Bool} :∀ {H:Heap} {j:Nat} {o:AObj},allHp p H=true→H.get j=some o→p j=true∧allO p o=true
 | [],j,o,_,h=>by simp [Heap.get] at h
 | (i,q) ::r,j,o,hp,h=>by
  simp only [allHp,Bool.and_eq_true] at hp
  rw [Heap.get_cons] at h
  split at h
  ·rename_i e; subst e; cases h; exact hp.1
  ·exact allHp_get hp.2 h
def newsF (n n':Nat):Heap→Heap
 | [] =>[]
 | (j,o) ::r=>match Nat.ble n j && Nat.blt j n' with
  | true=>(j,o) ::newsF n n' r
  | false=>newsF n n' r
theorem newsF_get {n n':Nat} :∀ {H:Heap} {j:Nat} {o:AObj},(newsF n n' H).get j=some o→H.get j=some o∧n≤j∧j < n'
 | [],j,o,h=>by simp [newsF,Heap.get] at h
 | (i,q) ::r,j,o,h=>by
  unfold newsF at h
  rw [Heap.get_cons]
  split at h
  ·rename_i hb
   simp only [Bool.and_eq_true,Nat.ble_eq,Nat.blt_eq] at hb
   rw [Heap.get_cons] at h
   split at h
   ·rename_i e; subst e; rw [if_pos rfl]; exact⟨h,hb⟩
   ·rename_i e; rw [if_neg e]; exact newsF_get h
  ·rename_i hb
   obtain⟨h1,h2,h3⟩:=newsF_get h
   refine⟨?_,h2,h3⟩
   rw [if_neg (fun e=>by
    subst e
    have:(Nat.ble n i && Nat.blt i n')=true:=by simp [Nat.blt_eq,h2]; exact h3
    rw [this] at hb; cases hb)]
   exact h1
def allRw:Heap→Bool
 | [] =>true
 | (_,o) ::r=>o.rw && allRw r
theorem allRw_get:∀ {H:Heap} {j:Nat} {o:AObj},allRw H=true→H.get j=some o→o.rw=true
 | [],j,o,_,h=>by simp [Heap.get] at h
 | (i,q) ::r,j,o,hp,h=>by
  simp only [allRw,Bool.and_eq_true] at hp
  rw [Heap.get_cons] at h
  split at h
  ·cases h; exact hp.1
  ·exact allRw_get hp.2 h
theorem hget_append (h H:Heap) (j:Nat):Heap.get (h++H) j=match Heap.get h j with
  | some o=>some o
  | none=>Heap.get H j:=by
 induction h with
 | nil=>rfl
 | cons x r ih=>
  obtain⟨i,o⟩:=x
  rw [List.cons_append,Heap.get_cons,Heap.get_cons]
  by_cases e:i=j
  ·rw [if_pos e,if_pos e]
  ·rw [if_neg e,if_neg e,ih]
def pNew (p:Nat→Bool) (n n' j:Nat):Bool:=p j || (Nat.ble n j && Nat.blt j n')
def evCallR (X:Cx) (o:Oper) (conds:List (Nat×Bool)) (tmps:List TV) (H:Heap) (p:Nat→Bool) (n:Nat):Option (Value×Heap×Nat×List Prop):=
 match globsOk X.P o && Nat.ble X.P.globals.size n with
 | false=>none
 | true=>match o.op with
  | .call c=>match c.callee with
   | .value f=>match evo tmps conds f,evArgs (evo tmps conds) c.args.toList with
    | some (.func (.func fid) ⟨first⟩ ⟨cap⟩),some args=>match roOf H (closeN H 400 (numsL (first++args++cap) []) []) with
     | V=>match allL p (first++args++cap) && allHp p V with
      | false=>none
      | true=>match X.call fid (first++args++cap) (V++X.J.tabs) n [] with
       | none=>none
       | some ⟨v,h,n',obs,_⟩=>match newsF n n' h with
        | fr=>match Nat.ble n n' && (allV (pNew p n n') v && allHp (pNew p n n') fr && allRw fr) with
         | true=>some (v,fr,n',obs)
         | false=>none
    | _,_=>none
   | _=>none
  | _=>none
theorem ORep.owned {B:Nat} {M:Nat→Prop} {B':Nat} {ρ:Num} {w:World} {ob:Option Nat} {o:AObj} (h:ORep B' (fun _=>False) ρ w ob o) (hle:B≤B') (hrw:o.rw=true):ORep B M ρ w ob o∧∀ b,ob=some b→B'≤b:=by
 cases o with
 | row e sz r k=>
  rcases h with h | ⟨b,cap,cur,h1,h2,h3,h4,h5⟩
  ·exact⟨.inl h,fun b hb=>by rw [h.1] at hb; cases hb⟩
  ·have h4:B'≤b:=h4.elim id False.elim
   exact⟨.inr ⟨b,cap,cur,h1,h2,h3, .inl (Nat.le_trans hle h4),h5⟩,fun b' hb=>by rw [h1] at hb; cases hb; exact h4⟩
 | cells cs t=>
  obtain⟨b,h1,h2,h3⟩:=h
  have h3:B'≤b:=h3.elim id False.elim
  exact⟨⟨b,h1,h2, .inl (Nat.le_trans hle h3)⟩,fun b' hb=>by rw [h1] at hb; cases hb; exact h3⟩
 | iter s p=>
  obtain⟨b,h1,h2,h3⟩:=h
  have h3:B'≤b:=h3.elim id False.elim
  exact⟨⟨b,h1,h2, .inl (Nat.le_trans hle h3)⟩,fun b' hb=>by rw [h1] at hb; cases hb; exact h3⟩
 | ints k xs=>cases hrw
 | loop st pn ts ps asg bd=>
  obtain⟨b,r,h1,h2,h3,h4⟩:=h
  have h4:B'≤b:=h4.elim id False.elim
  exact⟨⟨b,r,h1,h2,h3, .inl (Nat.le_trans hle h4)⟩,fun b' hb=>by rw [h1] at hb; cases hb; exact h4⟩
 | defr=>
  obtain⟨b,h1,h2,h3⟩:=h
  have h3:B'≤b:=h3.elim id False.elim
  exact⟨⟨b,h1,h2, .inl (Nat.le_trans hle h3)⟩,fun b' hb=>by rw [h1] at hb; cases hb; exact h3⟩
 | dead=>
  obtain⟨b,q,h1,h2,h3⟩:=h
  have h3:B'≤b:=h3.elim id False.elim
  exact⟨⟨b,q,h1,h2, .inl (Nat.le_trans hle h3)⟩,fun b' hb=>by rw [h1] at hb; cases hb; exact h3⟩
 | ro xs=>cases hrw
 | fam f n sz o=>cases hrw
 | map es=>
  obtain⟨b,mes,ck,h1,h2,h3,h4⟩:=h
  have h4:B'≤b:=h4.elim id False.elim
  exact⟨⟨b,mes,ck,h1,h2,h3, .inl (Nat.le_trans hle h4)⟩,fun b' hb=>by rw [h1] at hb; cases hb; exact h4⟩
theorem evCallR_sound {X:Cx} {J:Inv X.P} (hX:CxOk X J) {o:Oper} {conds:List (Nat×Bool)} {tmps:List TV} {H:Heap} {p:Nat→Bool} {n n':Nat} {v0:Value} {fr:Heap} {obs:List Prop} (h:evCallR X o conds tmps H p n=some (v0,fr,n',obs)) (hl:allP obs)
  {B:Nat} {M:Nat→Prop} {F:Num→Prop} {ρ:Num} (hF:F ρ) (hFp:∀ ρ',F ρ'→∀ j,p j=true→ρ' j=ρ j) (hpn:∀ j,p j=true→j < n) {β:Nat→Bool} (hc:V β conds) {a:Act} {w:World} (hB:B≤w.heap.size) (hI:J.I w) {Hb:Heap}
  (hS:∀ ρ',F ρ'→Sim X.P B M ρ' Hb w) (hH:∀ j o,H.get j=some o→Hb.get j=some o) (hT:∀ ρ',F ρ'→∀ t, .tmp t∈o.op.operands.toList→TRel ρ' β (getT tmps t) (a.tmps.getD t undef))
  {rb:Option Nat} {K:Act→World→Prop} {Q:Exit→Act→World→Prop}
  (hK:∀ v w' (ρn:Num),n≤n'→(∀ j o,fr.get j=some o→n≤j∧j < n')→(∀ ρ',F ρ'→(∀ j,n≤j→j < n'→ρ' j=ρn j)→v=rv ρ' v0∧Sim X.P B M ρ' (fr++Hb) w')→Keeps B M w w'→K (a.put o.dst v) w'):
  o.wpIn (Fl rb) 0 X.P a w K Q:=by
 unfold evCallR at h
 split at h
 case h_1=>cases h
 rename_i hglob
 simp only [Bool.and_eq_true,Nat.ble_eq] at hglob
 obtain⟨hglob,hgn⟩:=hglob
 have hglob':∀ x∈o.op.operands.toList,∀ g,x= .global g→g < X.P.globals.size:=by
  intro x hx g e
  subst e
  have:=List.all_eq_true.1 hglob _ hx
  simpa [Nat.blt_eq] using this
 split at h
 case h_2=>cases h
 rename_i c ho
 split at h
 case h_2=>cases h
 rename_i f hcal
 split at h
 case h_2=>cases h
 rename_i fid first cap args hf hargs
 dsimp only at h
 generalize hV:roOf H (closeN H 400 (numsL (first++args++cap) []) [])=V at h
 split at h
 case h_1=>cases h
 rename_i hall
 simp only [Bool.and_eq_true] at hall
 obtain⟨hpa,hpV⟩:=hall
 split at h
 case h_1=>cases h
 rename_i v h' n1 obs' ds' hcl
 split at h
 case h_2=>cases h
 rename_i hres
 simp only [Bool.and_eq_true] at hres
 obtain⟨_,⟨hpv,hpf⟩,hrw⟩:=hres
 cases h
 have hev:∀ x∈o.op.operands.toList,∀ y,evo tmps conds x=some y→a.eval x=rv ρ y:=fun x hx y hy=>
  evo_sound (hS ρ hF) hc hy (fun t e=>hT ρ hF t (e ▸ hx)) (hglob' x hx)
 have hfm:f∈o.op.operands.toList:=by rw [ho]; simp [Op.operands,Call.operands,hcal]
 have ham:∀ x∈c.args.toList,x∈o.op.operands.toList:=fun x hx=>by rw [ho]; simp [Op.operands,Call.operands,hcal]; exact .inr (by simpa using hx)
 obtain⟨hnn,hcalls⟩:=call_sound hX hcl hl
 have hnn:n≤n':=hnn
 have hrun:(execOp a.eval o).run X.P w=(callFunc fid ⟨rvL ρ (first++args++cap)⟩).run X.P w:=by
  have e1:=hev f hfm _ hf
  have e2:=evArgs_sound (a:=a.eval) (ρ:=ρ) c.args.toList args (fun x hx y hy=>hev x (ham x hx) y hy) hargs
  have e3:c.args.map a.eval=⟨rvL ρ args⟩:=by apply Array.ext'; simpa using e2
  simp only [execOp,ho,resolve,hcal,e1,e3,rv,rvA,rFn,Deferred.ofValue,pure_bind,invoke]
  have e4:((⟨rvL ρ first⟩:Array Value)++(⟨rvL ρ args⟩:Array Value)++(⟨rvL ρ cap⟩:Array Value))=⟨rvL ρ (first++args++cap)⟩:=by simp [rvL_eq]
  rw [e4]
 have hS0:=hS ρ hF
 have hp':Par X.P w.heap.size (fun _=>False):=⟨J.room w hI,fun _ _ h=>h⟩
 have hVS:∀ ρ',Agree n ρ ρ'→Sim X.P w.heap.size (fun _=>False) ρ' (V++X.J.tabs) w∧rvL ρ (first++args++cap)=rvL ρ' (first++args++cap):=by
  intro ρ' ha
  have hag:∀ j,p j=true→ρ' j=ρ j:=fun j hj=>ha j (hpn j hj)
  have hgl:∀ g,g < X.P.globals.size→ρ' g=some g:=fun g hg=>by rw [ha g (by omega)]; exact hS0.glob g hg
  have hts:=hX.tabs w ρ' w.heap.size (fun _=>False) hI hgl
  refine⟨⟨hgl,fun j o' hj=> ?_,fun i j oi oj hi hr _ _ _=> ?_⟩,(rvL_all hag _ hpa).symm⟩
  ·rw [hget_append] at hj
   split at hj
   case h_2=>exact hts.obj j o' hj
   rename_i o2 hj2
   cases hj
   have hj:=hj2
   obtain⟨hk1,hk2⟩:=allHp_get hpV hj
   have hj':=hj
   rw [← hV] at hj'
   obtain⟨o1,ho1,hro⟩:=roOf_get hj'
   have:=(hS0.obj j o1 (hH j o1 ho1)).ro (B':=w.heap.size) (M':=fun _=>False) hro
   rw [hag j hk1]
   exact this.1.all hag hk2
  ·rw [hget_append] at hi
   split at hi
   case h_2=>rw [hX.ro i oi hi] at hr; cases hr
   rename_i o2 hi2
   cases hi
   have hi:=hi2
   have hi':=hi
   rw [← hV] at hi'
   obtain⟨o1,ho1,hro⟩:=roOf_get hi'
   have:=(hS0.obj i o1 (hH i o1 ho1)).ro (B':=w.heap.size) (M':=fun _=>False) hro
   rw [this.2] at hr
   cases hr
 have hc1:=hcalls w.heap.size (fun _=>False) ρ w (rvL ρ (first++args++cap)) hp' (Nat.le_refl _) hI hVS
 refine wpIn_does (by rw [ho]; intro c hc; cases hc) hrun (hc1.mono fun e w' hh=> ?_)
 obtain⟨ρ1,v1,ha1,he,hk,hfin⟩:=hh
 refine⟨v1,he,?_⟩
 have hbel:Below w.heap.size w w':=hk.below
 refine hK v1 w' ρ1 hnn (fun j o hj=>(newsF_get hj).2) (fun ρ' ha hnew=> ?_) (Keeps.of_below hbel hB)
 let ρ2:Num:=fun j=>if j < n then ρ1 j else ρ' j
 have h2:Agree n' ρ1 ρ2:=fun j hj=>by
  show (if j < n then ρ1 j else ρ' j)=ρ1 j
  by_cases hlt:j < n
  ·rw [if_pos hlt]
  ·rw [if_neg hlt]; exact hnew j (by omega) hj
 have hag:∀ j,pNew p n n' j=true→ρ' j=ρ2 j:=fun j hj=>by
  show ρ' j=(if j < n then ρ1 j else ρ' j)
  simp only [pNew,Bool.or_eq_true,Bool.and_eq_true,Nat.ble_eq,Nat.blt_eq] at hj
  by_cases hlt:j < n
  ·rw [if_pos hlt]
   rcases hj with hj | hj
   ·rw [hFp ρ' ha j hj,ha1 j hlt]
   ·omega
  ·rw [if_neg hlt]
 obtain⟨g1,g2⟩:=hfin ρ2 h2
 refine⟨by rw [g1,rv_all hag _ hpv],?_⟩
 have hold:=(hS ρ' ha).below hbel
 have key:∀ j o',(newsF n n' h').get j=some o'→o'.rw=true∧ORep B M ρ' w' (ρ' j) o'∧∀ b,ρ' j=some b→w.heap.size≤b:=fun j o' hj=>by
  obtain⟨k1,k2⟩:=allHp_get hpf hj
  have k3:=allRw_get hrw hj
  have k4:=(g2.obj j o' (newsF_get hj).1).all hag k2
  rw [← hag j k1] at k4
  have:=k4.owned hB k3 (M:=M)
  exact⟨k3,this.1,this.2⟩
 have low:∀ k ok,Hb.get k=some ok→∀ b,ρ' k=some b→b < w.heap.size:=fun k ok hk b hb'=>by
  have:=(hS ρ' ha).obj k ok hk
  rw [hb'] at this
  exact this.lt
 refine⟨hold.glob,fun i o' hi=> ?_,fun i j oi oj hi hr hj hij hne=> ?_⟩
 ·rw [hget_append] at hi
  split at hi
  ·rename_i o2 ho2; cases hi; exact (key i o' ho2).2.1
  ·exact hold.obj i o' hi
 ·rw [hget_append] at hi hj
  split at hi <;> split at hj
  ·rename_i ho2 _ _ ho3
   cases hi; cases hj
   have k1:=allHp_get hpf ho2
   have k2:=allHp_get hpf ho3
   have:=g2.inj i j oi oj (newsF_get ho2).1 hr (newsF_get ho3).1 hij
   rw [← hag i k1.1,← hag j k2.1] at this
   exact this hne
  ·rename_i ho2 _ _
   cases hi
   intro e
   cases hq:ρ' i with
   | none=>exact hne hq
   | some b=>
    have h1:=(key i oi ho2).2.2 b hq
    have h2:=low j oj hj b (by rw [← e]; exact hq)
    omega
  ·rename_i ho3
   cases hj
   intro e
   cases hq:ρ' i with
   | none=>exact hne hq
   | some b=>
    have h1:=(key j oj ho3).2.2 b (by rw [← e]; exact hq)
    have h2:=low i oi hi b hq
    omega
  ·exact hold.inj i j oi oj hi hr hj hij hne
def evLay (X:Cx) (os:List Oper) (o:Oper) (tmps:List TV) (H:Heap) (p:Nat→Bool) (n:Nat) (kv:KV):Option (List TV×KV×TV×Heap×Nat×List Prop):=
 match evGuard X.gd os o tmps kv with
 | some (false,tmps',kv',conds)=>match evCallR X o conds tmps' H p n with
  | none=>none
  | some (v,fr,n',obs)=>some (tmps',kv',resT conds v,fr,n',match hasC conds with
   | true=>condH kv' conds ::obs
   | false=>obs)
 | _=>none
theorem evLay_some {X:Cx} {os:List Oper} {o:Oper} {tmps tmps':List TV} {H:Heap} {p:Nat→Bool} {n n':Nat} {kv kv':KV} {tv:TV} {fr:Heap} {obs:List Prop} (h:evLay X os o tmps H p n kv=some (tmps',kv',tv,fr,n',obs)):
  ∃ conds v obs0,evGuard X.gd os o tmps kv=some (false,tmps',kv',conds)∧evCallR X o conds tmps' H p n=some (v,fr,n',obs0)∧tv=resT conds v∧(allP obs→allP obs0∧condH kv' conds):=by
 unfold evLay at h
 split at h
 case h_2=>cases h
 rename_i conds hg
 split at h
 ·cases h
 rename_i v fr' n1 obs0 hc
 cases h
 refine⟨conds,v,obs0,hg,hc,rfl,fun hl=> ?_⟩
 cases conds with
 | nil=>exact⟨hl,trivial⟩
 | cons x r=>exact⟨hl.2,hl.1⟩
theorem evCallR_span {X:Cx} {o:Oper} {conds:List (Nat×Bool)} {tmps:List TV} {H:Heap} {p:Nat→Bool} {n n':Nat} {v:Value} {fr:Heap} {obs:List Prop} (h:evCallR X o conds tmps H p n=some (v,fr,n',obs)):
  n≤n'∧∀ j o,fr.get j=some o→n≤j∧j < n':=by
 unfold evCallR at h
 split at h
 case h_1=>cases h
 split at h
 case h_2=>cases h
 split at h
 case h_2=>cases h
 split at h
 case h_2=>cases h
 dsimp only at h
 split at h
 case h_1=>cases h
 split at h
 case h_1=>cases h
 split at h
 case h_2=>cases h
 rename_i hres
 simp only [Bool.and_eq_true,Nat.ble_eq] at hres
 cases h
 exact⟨hres.1,fun j o hj=>(newsF_get hj).2⟩
theorem evLay_span {X:Cx} {os:List Oper} {o:Oper} {tmps tmps':List TV} {H:Heap} {p:Nat→Bool} {n n':Nat} {kv kv':KV} {tv:TV} {fr:Heap} {obs:List Prop} (h:evLay X os o tmps H p n kv=some (tmps',kv',tv,fr,n',obs)):
  n≤n'∧∀ j o,fr.get j=some o→n≤j∧j < n':=by
 obtain⟨_,_,_,_,hc,_⟩:=evLay_some h
 exact evCallR_span hc
theorem evLay_sound {X:Cx} {J:Inv X.P} (hX:CxOk X J) {os:List Oper} {i:Nat} {o:Oper} (hi:os[i]? =some o) {tmps tmps':List TV} {H:Heap} {p:Nat→Bool} {n n':Nat} {kv kv':KV} {tv:TV} {fr:Heap} {obs:List Prop}
  (h:evLay X os o tmps H p n kv=some (tmps',kv',tv,fr,n',obs)) (hl:allP obs)
  {B:Nat} {M:Nat→Prop} {F:Num→Prop} {ρ:Num} (hF:F ρ) (hFp:∀ ρ',F ρ'→∀ j,p j=true→ρ' j=ρ j) (hpn:∀ j,p j=true→j < n) {Cβ:(Nat→Bool)→Prop} (hne:∃ β,Cβ β) (hCβ:∀ β,Cβ β→KVok kv' β) {a:Act} {w:World} (hB:B≤w.heap.size) (hI:J.I w) {Hb:Heap}
  (hS:∀ ρ',F ρ'→Sim X.P B M ρ' Hb w) (hH:∀ j o,H.get j=some o→Hb.get j=some o) (hT:∀ ρ',F ρ'→∀ β,Cβ β→∀ t∈looks os o,TRel ρ' β (getT tmps t) (a.tmps.getD t undef))
  {rb:Option Nat} {K:Act→World→Prop} {Q:Exit→Act→World→Prop}
  (hK:∀ v w' (ρn:Num),n≤n'→(∀ j o,fr.get j=some o→n≤j∧j < n')→(∀ ρ',F ρ'→(∀ j,n≤j→j < n'→ρ' j=ρn j)→Sim X.P B M ρ' (fr++Hb) w'∧∀ β,Cβ β→TRel ρ' β tv v)→Keeps B M w w'→K (a.put o.dst v) w'):
  wpOpIn (Fl rb) 0 X.P ⟨os⟩ Q i K a w:=by
 have hoi:(⟨os⟩:Array Oper)[i]? =some o:=by simpa using hi
 unfold wpOpIn
 rw [hoi]
 simp only []
 obtain⟨β0,hβ0⟩:=hne
 obtain⟨conds,v0,obs0,hg,hc,etv,hobs⟩:=evLay_some h
 obtain⟨hl0,hcond⟩:=hobs hl
 have hV:V β0 conds:=condH_of (hCβ β0 hβ0) hcond
 have g:∀ ρ',F ρ'→∀ β,Cβ β→_:=fun ρ' ha β hβ=>evGuard_sound hg (hCβ β hβ) (fun t ht _=>hT ρ' ha β hβ t ht)
 have hw:∀ β,Cβ β→(Region.wanted o (yielded ⟨os⟩ a.tmps)=true↔V β conds):=fun β hβ=>(g ρ hF β hβ).2.2.1 rfl
 have hwt:=(hw β0 hβ0).2 hV
 rw [if_pos hwt]
 refine evCallR_sound hX hc hl0 hF hFp hpn hV hB hI hS hH (fun ρ' ha t ht=> ?_) (fun v w' ρn hn hfr hfin hk=> ?_)
 ·exact ((g ρ' ha β0 hβ0).2.2.2 t _).1 (hT ρ' ha β0 hβ0 t (operand_looks ht))
 ·refine hK v w' ρn hn hfr (fun ρ' ha hnew=> ?_) hk
  obtain⟨g1,g2⟩:=hfin ρ' ha hnew
  refine⟨g2,fun β hβ=> ?_⟩
  have hVβ:=(hw β hβ).1 hwt
  rw [etv]
  unfold resT
  split
  ·exact g1
  ·exact⟨fun _=>g1,fun hn=>absurd hVβ hn⟩
def predsAt (os:List Oper) (p:Nat):List Nat:=match os[p]? with
 | some o=>predsOf o
 | none=>[]
def closeP (os:List Oper):Nat→List Nat→List Nat→List Nat
 | 0,_,acc=>acc
 | f+1,work,acc=>match work with
  | [] =>acc
  | p ::r=>match memN p acc with
   | true=>closeP os f r acc
   | false=>closeP os f (predsAt os p++r) (p ::acc)
theorem closeP_in {os:List Oper} {L:Nat→Prop} (hL:∀ p,L p→∀ e∈predsAt os p,L e):∀ (f:Nat) (work acc:List Nat),(∀ p∈work,L p)→(∀ p∈acc,L p)→∀ p∈closeP os f work acc,L p
 | 0,_,acc,_,ha=>by simpa only [closeP] using ha
 | f+1,work,acc,hw,ha=>by
  unfold closeP
  split
  ·exact ha
  ·rename_i p r
   split
   ·exact closeP_in hL f r acc (fun q hq=>hw q (by simp [hq])) ha
   ·refine closeP_in hL f _ _ (fun q hq=> ?_) (fun q hq=> ?_)
    ·rcases List.mem_append.1 hq with hq | hq
     ·exact hL p (hw p (by simp)) q hq
     ·exact hw q (by simp [hq])
    ·rcases List.mem_cons.1 hq with rfl | hq
     ·exact hw q (by simp)
     ·exact ha q hq
def reach (os:List Oper) (o:Oper):List Nat:=closeP os 400 (predsOf o) []
structure LaE where
 k:Nat
 lo:Nat
 hi:Nat
 h:Heap
def visH (f:Nat→Bool):List LaE→Heap→Heap
 | [],H0=>H0
 | ⟨k,_,_,h⟩ ::r,H0=>match f k with
  | true=>h++visH f r H0
  | false=>visH f r H0
def lowKeys (n0:Nat):Heap→Bool
 | [] =>true
 | (j,_) ::r=>Nat.blt j n0 && lowKeys n0 r
theorem lowKeys_get {n0:Nat} :∀ {H:Heap},lowKeys n0 H=true→∀ {j:Nat} {o:AObj},H.get j=some o→j < n0
 | [],_,j,o,h=>by simp [Heap.get] at h
 | (k,ob) ::r,hk,j,o,h=>by
  simp only [lowKeys,Bool.and_eq_true,Nat.blt_eq] at hk
  rw [Heap.get_cons] at h
  split at h
  ·rename_i e; subst e; exact hk.1
  ·exact lowKeys_get hk.2 h
def WF (n0:Nat):List LaE→Nat→Prop
 | [],b=>n0≤b
 | e ::r,b=>WF n0 r e.lo∧e.lo≤e.hi∧e.hi≤b∧∀ j o,e.h.get j=some o→e.lo≤j∧j < e.hi
theorem WF.le {n0:Nat} :∀ {la:List LaE} {b:Nat},WF n0 la b→n0≤b
 | [],_,h=>h
 | _ ::_,_,h=>Nat.le_trans h.1.le (Nat.le_trans h.2.1 h.2.2.1)
theorem WF.mono {n0:Nat} {la:List LaE} {b b':Nat} (h:WF n0 la b) (hb:b≤b'):WF n0 la b':=by
 cases la with
 | nil=>exact Nat.le_trans h hb
 | cons e r=>exact⟨h.1,h.2.1,Nat.le_trans h.2.2.1 hb,h.2.2.2⟩
theorem WF.span {n0:Nat} :∀ {la:List LaE} {b:Nat},WF n0 la b→∀ e∈la,n0≤e.lo∧e.lo≤e.hi∧e.hi≤b∧∀ j o,e.h.get j=some o→e.lo≤j∧j < e.hi
 | [],_,_,e,he=>by cases he
 | x ::r,b,h,e,he=>by
  rcases List.mem_cons.1 he with rfl | he
  ·exact⟨h.1.le,h.2.1,h.2.2.1,h.2.2.2⟩
  ·obtain⟨h1,h2,h3,h4⟩:=h.1.span e he
   exact⟨h1,h2,Nat.le_trans h3 (Nat.le_trans h.2.1 h.2.2.1),h4⟩
theorem visH_some {f:Nat→Bool} {H0:Heap} :∀ {la:List LaE} {j:Nat} {o:AObj},(visH f la H0).get j=some o→H0.get j=some o∨∃ e∈la,f e.k=true∧e.h.get j=some o
 | [],j,o,h=> .inl h
 | e ::r,j,o,h=>by
  unfold visH at h
  split at h
  ·rename_i hf
   rw [hget_append] at h
   split at h
   ·rename_i o2 ho2
    cases h
    exact .inr ⟨e,by simp,hf,ho2⟩
   ·rcases visH_some h with h | ⟨e',he',h1,h2⟩
    ·exact .inl h
    ·exact .inr ⟨e',by simp [he'],h1,h2⟩
  ·rcases visH_some h with h | ⟨e',he',h1,h2⟩
   ·exact .inl h
   ·exact .inr ⟨e',by simp [he'],h1,h2⟩
theorem visH_of {n0:Nat} {f:Nat→Bool} {H0:Heap} (hlow:lowKeys n0 H0=true):∀ {la:List LaE} {b:Nat} {j:Nat} {o:AObj},WF n0 la b→(H0.get j=some o∨∃ e∈la,f e.k=true∧e.h.get j=some o)→(visH f la H0).get j=some o
 | [],b,j,o,_,h=>by
  rcases h with h | ⟨e,he,_⟩
  ·exact h
  ·cases he
 | e ::r,b,j,o,hwf,h=>by
  have ih:(H0.get j=some o∨∃ e∈r,f e.k=true∧e.h.get j=some o)→(visH f r H0).get j=some o:=visH_of hlow hwf.1
  have far:(H0.get j=some o∨∃ e∈r,f e.k=true∧e.h.get j=some o)→e.h.get j=none:=by
   intro hh
   cases hq:e.h.get j with
   | none=>rfl
   | some o2=>
    have hr:=hwf.2.2.2 j o2 hq
    rcases hh with hh | ⟨e',he',_,h2⟩
    ·have:=lowKeys_get hlow hh
     have:=hwf.1.le
     omega
    ·obtain⟨_,_,h3,h4⟩:=hwf.1.span e' he'
     have:=h4 j o h2
     omega
  unfold visH
  split
  ·rename_i hf
   rw [hget_append]
   rcases h with h | ⟨e',he',h1,h2⟩
   ·rw [far (.inl h)]; exact ih (.inl h)
   ·rcases List.mem_cons.1 he' with rfl | he'
    ·rw [h2]
    ·rw [far (.inr ⟨e',he',h1,h2⟩)]; exact ih (.inr ⟨e',he',h1,h2⟩)
  ·rename_i hf
   rcases h with h | ⟨e',he',h1,h2⟩
   ·exact ih (.inl h)
   ·rcases List.mem_cons.1 he' with rfl | he'
    ·have hf:f e'.k=false:=hf
     rw [hf] at h1; cases h1
    ·exact ih (.inr ⟨e',he',h1,h2⟩)
def pVis (f:Nat→Bool) (n0:Nat):List LaE→Nat→Bool
 | [],j=>Nat.blt j n0
 | e ::r,j=>(f e.k && Nat.ble e.lo j && Nat.blt j e.hi) || pVis f n0 r j
theorem pVis_spec {f:Nat→Bool} {n0:Nat} :∀ {la:List LaE} {j:Nat},pVis f n0 la j=true→j < n0∨∃ e∈la,f e.k=true∧e.lo≤j∧j < e.hi
 | [],j,h=> .inl (by simpa [pVis,Nat.blt_eq] using h)
 | e ::r,j,h=>by
  simp only [pVis,Bool.or_eq_true,Bool.and_eq_true,Nat.ble_eq,Nat.blt_eq] at h
  rcases h with h | h
  ·exact .inr ⟨e,by simp,h.1.1,h.1.2,h.2⟩
  ·rcases pVis_spec h with h | ⟨e',he',h'⟩
   ·exact .inl h
   ·exact .inr ⟨e',by simp [he'],h'⟩
def dropIds (ws:List Nat):Heap→Heap
 | [] =>[]
 | (j,o) ::r=>match memN j ws with
  | true=>dropIds ws r
  | false=>(j,o) ::dropIds ws r
theorem dropIds_get {ws:List Nat} :∀ {H:Heap} {j:Nat} {o:AObj},(dropIds ws H).get j=some o→H.get j=some o∧memN j ws=false
 | [],j,o,h=>by simp [dropIds,Heap.get] at h
 | (k,q) ::r,j,o,h=>by
  unfold dropIds at h
  split at h
  ·rename_i hk
   obtain⟨h1,h2⟩:=dropIds_get h
   rw [Heap.get_cons]
   by_cases e:k=j
   ·subst e; rw [hk] at h2; cases h2
   ·rw [if_neg e]; exact⟨h1,h2⟩
  ·rename_i hk
   rw [Heap.get_cons] at h ⊢
   split at h
   ·rename_i e; subst e; exact⟨by rw [if_pos rfl]; exact h,hk⟩
   ·rename_i e
    obtain⟨h1,h2⟩:=dropIds_get h
    exact⟨by rw [if_neg e]; exact h1,h2⟩
theorem dropIds_of {ws:List Nat} :∀ {H:Heap} {j:Nat} {o:AObj},H.get j=some o→memN j ws=false→(dropIds ws H).get j=some o
 | [],j,o,h,_=>by simp [Heap.get] at h
 | (k,q) ::r,j,o,h,hj=>by
  rw [Heap.get_cons] at h
  unfold dropIds
  split
  ·rename_i hk
   split at h
   ·rename_i e; subst e; rw [hk] at hj; cases hj
   ·exact dropIds_of h hj
  ·rw [Heap.get_cons]
   split at h
   ·rename_i e; rw [if_pos e]; exact h
   ·rename_i e; rw [if_neg e]; exact dropIds_of h hj
def pickIds (H:Heap):List Nat→Heap
 | [] =>[]
 | j ::r=>match H.get j with
  | some o=>(j,o) ::pickIds H r
  | none=>pickIds H r
theorem pickIds_get {H:Heap} :∀ {ws:List Nat} {j:Nat} {o:AObj},(pickIds H ws).get j=some o→H.get j=some o∧memN j ws=true
 | [],j,o,h=>by simp [pickIds,Heap.get] at h
 | i ::r,j,o,h=>by
  unfold pickIds at h
  split at h
  ·rename_i q hq
   rw [Heap.get_cons] at h
   split at h
   ·rename_i e; subst e; cases h; exact⟨hq,memN_iff.2 (by simp)⟩
   ·obtain⟨h1,h2⟩:=pickIds_get h
    exact⟨h1,memN_iff.2 (List.mem_cons_of_mem _ (memN_iff.1 h2))⟩
  ·obtain⟨h1,h2⟩:=pickIds_get h
   exact⟨h1,memN_iff.2 (List.mem_cons_of_mem _ (memN_iff.1 h2))⟩
theorem pickIds_none {H:Heap} {ws:List Nat} {j:Nat} (h:memN j ws=false):(pickIds H ws).get j=none:=by
 cases hq:(pickIds H ws).get j with
 | none=>rfl
 | some o=>rw [(pickIds_get hq).2] at h; cases h
structure Ef where
 e:Nat
 ws:List Nat
 hw:Heap
def visE (f:Nat→Bool):Option Ef→Heap→Heap
 | none,H=>H
 | some ⟨e,ws,hw⟩,H=>match f e with
  | true=>hw++dropIds ws H
  | false=>H
def offE:Option Ef→Heap→Heap
 | none,H=>H
 | some ⟨_,ws,_⟩,H=>dropIds ws H
def effO:Op→Bool
 | .store _ _ _=>true
 | .call c=>match c.callee with
  | .builtin b=>isApp b
  | _=>false
 | _=>false
def evE (X:Cx) (o:Oper) (tm:List TV) (H:Heap) (n:Nat):Option (Value×Heap×Nat×List Nat×List Prop):=
 match o.guard with
 | some _=>none
 | none=>match globsOk X.P o with
  | false=>none
  | true=>match o.op with
   | .store t x y=>match evo tm [] x,evo tm [] y with
    | some (.pointer (some ⟨id,off,sp⟩)),some v=>match evStore X.P H t (.pointer (some ⟨id,off,sp⟩)) v with
     | some H'=>some (undef,H',n,[id],[])
     | none=>none
    | _,_=>none
   | .call c=>match c.callee with
    | .builtin b=>match isApp b with
     | false=>none
     | true=>match evArgs (evo tm []) c.args.toList with
      | some args=>match evAppend X.P X.auto c.argTypes.toList H n args with
       | some (v,H',l)=>some (v,H',n+2,n ::baseOf args,l)
       | none=>none
      | none=>none
    | _=>none
   | _=>none
theorem evStore_mono {P:Program} {H H' H2:Heap} {t:TypeId} {v:Value} {id off:Nat} {sp:Option Nat} (h:evStore P H t (.pointer (some ⟨id,off,sp⟩)) v=some H') (hs:∀ i o,H.get i=some o→H2.get i=some o):
  ∃ H2',evStore P H2 t (.pointer (some ⟨id,off,sp⟩)) v=some H2'∧(∀ o,H'.get id=some o→H2'.get id=some o)∧(∀ i,i≠id→H2'.get i=H2.get i):=by
 unfold evStore at h ⊢
 split at h
 case h_2=>cases h
 rename_i heq
 cases heq
 split at h
 case h_1=>cases h
 rename_i i hi
 split at h
 case h_4=>cases h
 ·rename_i cs ty hget
  simp only [hs _ _ hget]
  split at h
  case h_2=>cases h
  rename_i hc
  cases h
  try simp only [hc]
  refine⟨_,rfl,fun o ho=> ?_,fun i hi=> ?_⟩
  ·rw [Heap.get_set _ _ _ _ hget,if_pos rfl] at ho
   rw [Heap.get_set _ _ _ _ (hs _ _ hget),if_pos rfl]; exact ho
  ·rw [Heap.get_set _ _ _ _ (hs _ _ hget),if_neg (fun e=>hi e.symm)]
 ·rename_i hget
  simp only [hs _ _ hget]
  split at h
  case h_2=>cases h
  rename_i hc
  cases h
  try simp only [hc]
  refine⟨_,rfl,fun o ho=> ?_,fun i hi=> ?_⟩
  ·rw [Heap.get_set _ _ _ _ hget,if_pos rfl] at ho
   rw [Heap.get_set _ _ _ _ (hs _ _ hget),if_pos rfl]; exact ho
  ·rw [Heap.get_set _ _ _ _ (hs _ _ hget),if_neg (fun e=>hi e.symm)]
 ·rename_i hget
  simp only [hs _ _ hget]
  split at h
  case h_2=>cases h
  split at h
  case h_2=>cases h
  rename_i hc
  cases h
  try simp only [hc]
  refine⟨_,rfl,fun o ho=> ?_,fun i hi=> ?_⟩
  ·rw [Heap.get_set _ _ _ _ hget,if_pos rfl] at ho
   rw [Heap.get_set _ _ _ _ (hs _ _ hget),if_pos rfl]; exact ho
  ·rw [Heap.get_set _ _ _ _ (hs _ _ hget),if_neg (fun e=>hi e.symm)]
theorem evE_local {X:Cx} {o:Oper} {tm:List TV} {H H' H2:Heap} {n n':Nat} {v:Value} {ws:List Nat} {l:List Prop} (h:evE X o tm H n=some (v,H',n',ws,l)) (hs:∀ i o,H.get i=some o→H2.get i=some o):
  ∃ H2',evE X o tm H2 n=some (v,H2',n',ws,l)∧(∀ i o,memN i ws=true→H'.get i=some o→H2'.get i=some o)∧(∀ i,memN i ws=false→H2'.get i=H2.get i):=by
 unfold evE at h ⊢
 split at h
 ·cases h
 split at h
 ·cases h
 split at h
 case h_3=>cases h
 ·split at h
  case h_2=>cases h
  split at h
  case h_2=>cases h
  rename_i hst
  cases h
  obtain⟨H2',g1,g2,g3⟩:=evStore_mono hst hs
  simp only [g1]
  refine⟨_,rfl,fun i o hi=> ?_,fun i hi=>g3 i (fun e=> ?_)⟩
  ·have:=memN_iff.1 hi
   simp only [List.mem_singleton] at this
   subst this
   exact g2 o
  ·subst e; rw [memN_iff.2 (by simp)] at hi; cases hi
 ·split at h
  case h_2=>cases h
  split at h
  ·cases h
  split at h
  case h_2=>cases h
  split at h
  case h_2=>cases h
  rename_i hap
  cases h
  obtain⟨H2',g1,g2,g3⟩:=evAppend_local hap hs
  simp only [g1]
  refine⟨_,rfl,fun i o hi=>g2 i o ?_,fun i hi=>g3 i (fun e=> ?_) (fun e=> ?_)⟩
  ·have:=memN_iff.1 hi
   simpa using this
  ·rw [memN_iff.2 (by simp [e])] at hi; cases hi
  ·rw [memN_iff.2 (by simp [e])] at hi; cases hi
theorem evE_span {X:Cx} {o:Oper} {tm:List TV} {H H':Heap} {n n':Nat} {v:Value} {ws:List Nat} {l:List Prop} (h:evE X o tm H n=some (v,H',n',ws,l)):o.guard=none∧(n'=n∨n'=n+2):=by
 unfold evE at h
 split at h
 ·cases h
 rename_i hg
 refine⟨hg,?_⟩
 split at h
 ·cases h
 split at h
 case h_3=>cases h
 ·split at h
  case h_2=>cases h
  split at h
  case h_2=>cases h
  cases h
  exact .inl rfl
 ·split at h
  case h_2=>cases h
  split at h
  ·cases h
  split at h
  case h_2=>cases h
  split at h
  case h_2=>cases h
  cases h
  exact .inr rfl
theorem evE_sound {X:Cx} {os:List Oper} {i:Nat} {o:Oper} (hi:os[i]? =some o) {tm:List TV} {H H':Heap} {n n':Nat} {v0:Value} {ws:List Nat} {l:List Prop} (h:evE X o tm H n=some (v0,H',n',ws,l)) (hl:allP l)
  {B:Nat} {M:Nat→Prop} {F:Num→Prop} {ρ:Num} (hF:F ρ) {a:Act} {w:World} (hB:B≤w.heap.size) (hS:∀ ρ',F ρ'→Sim X.P B M ρ' H w) {β:Nat→Bool} (hT:∀ ρ',F ρ'→∀ t∈looks os o,TRel ρ' β (getT tm t) (a.tmps.getD t undef))
  {rb:Option Nat} {K:Act→World→Prop} {Q:Exit→Act→World→Prop}
  (hK:∀ v w' (bn bk:Option Nat),(∀ ρ',F ρ'→(n'=n+2→ρ' n=bn∧ρ' (n+1)=bk)→v=rv ρ' v0∧Sim X.P B M ρ' H' w')→Keeps B M w w'→K (a.put o.dst v) w'):wpOpIn (Fl rb) 0 X.P ⟨os⟩ Q i K a w:=by
 have hoi:(⟨os⟩:Array Oper)[i]? =some o:=by simpa using hi
 unfold wpOpIn
 rw [hoi]
 simp only []
 unfold evE at h
 split at h
 ·cases h
 rename_i hg
 have hwt:Region.wanted o (yielded ⟨os⟩ a.tmps)=true:=by simp [Region.wanted,hg]
 rw [if_pos hwt]
 split at h
 ·cases h
 rename_i hglob
 have hglob':∀ x∈o.op.operands.toList,∀ g,x= .global g→g < X.P.globals.size:=by
  intro x hx g e
  subst e
  have:=List.all_eq_true.1 hglob _ hx
  simpa [Nat.blt_eq] using this
 have hev:∀ ρ',F ρ'→∀ x∈o.op.operands.toList,∀ y,evo tm [] x=some y→a.eval x=rv ρ' y:=fun ρ' ha x hx y hy=>
  evo_sound (hS ρ' ha) (V_nil β) hy (fun t e=>hT ρ' ha t (operand_looks (e ▸ hx))) (hglob' x hx)
 split at h
 case h_3=>cases h
 ·rename_i t x y ho
  split at h
  case h_2=>cases h
  rename_i id off sp v hx hy
  split at h
  case h_2=>cases h
  rename_i hst
  cases h
  obtain⟨w',h1,h2,h3,_⟩:=evStore_sound (hS ρ hF) hst
  have e1:=hev ρ hF x (by simp [ho,Op.operands]) _ hx
  have e2:=hev ρ hF y (by simp [ho,Op.operands]) _ hy
  refine wpIn_Fl (by rw [ho]; intro c hc; cases hc) ?_
  have hex:(execOp a.eval o).run X.P w= .ok .skip w':=by
   simp only [execOp,ho,Sem.run_bind]
   rw [e1,e2,h1]
   rfl
  rw [hex,Oper.uponIn_skip]
  refine hK _ w' none none (fun ρ' ha _=>⟨(rv_undef ρ').symm,?_⟩) h3
  obtain⟨w2,g1,g2,_⟩:=evStore_sound (hS ρ' ha) hst
  have f1:=hev ρ' ha x (by simp [ho,Op.operands]) _ hx
  have f2:=hev ρ' ha y (by simp [ho,Op.operands]) _ hy
  rw [← f1,← f2,e1,e2,h1] at g1
  cases g1
  exact g2
 ·rename_i c ho
  split at h
  case h_2=>cases h
  rename_i b hcal
  split at h
  ·cases h
  rename_i happ
  have happ:=isApp_spec happ
  subst happ
  split at h
  case h_2=>cases h
  rename_i args hargs
  split at h
  case h_2=>cases h
  rename_i v H1 l1 hv
  cases h
  have ham:∀ x∈c.args.toList,x∈o.op.operands.toList:=fun x hx=>by rw [ho]; simp [Op.operands,Call.operands,hcal]; simpa using hx
  have e2:∀ ρ',F ρ'→(c.args.map a.eval).toList=rvL ρ' args:=fun ρ' ha=>by
   have:=evArgs_sound (a:=a.eval) (ρ:=ρ') c.args.toList args (fun x hx y hy=>hev ρ' ha x (ham x hx) y hy) hargs
   simpa using this
  have e3:c.args.map a.eval=(rvL ρ args).toArray:=by apply Array.ext'; exact e2 ρ hF
  obtain⟨v',w',bn,bk,hrun,hk,hfin⟩:=evAppendF_sound hv hl hF hB hS (fun ρ' ha=>(e2 ρ' ha).symm.trans (e2 ρ hF)) o.type
  refine wpIn_Fl (by rw [ho]; intro c hc; cases hc) ?_
  have hex:(execOp a.eval o).run X.P w= .ok (.value v') w':=by
   simp only [execOp,ho,resolve,hcal,e3,pure_bind,invoke,builtin]
   have:(c.argTypes.toList.toArray:Array TypeId)=c.argTypes:=by simp
   rw [this] at hrun
   simp [hrun]
  rw [hex,Oper.uponIn_value]
  exact hK v' w' bn bk (fun ρ' ha hn=>hfin ρ' ha (hn rfl).1 (hn rfl).2) hk
def blindOp:Op→Bool
 | .move _=>true
 | .assign _=>true
 | .build _ _=>true
 | .binOp _ _ _ y _=> !nilC y
 | .unOp _ _ _=>true
 | .makeInterface _ _=>true
 | .makeFunc _ _ _=>true
 | .field _ _ _=>true
 | .index _ _ _=>true
 | .extract _ _=>true
 | .pick _ _ _=>true
 | _=>false
def visO (os:List Oper) (o:Oper) (la:List LaE) (H:Heap):Heap:=match blindOp o.op with
 | true=>[]
 | false=>visH (fun k=>memN k (reach os o)) la H
theorem visO_get {os:List Oper} {o:Oper} {la:List LaE} {H:Heap} {j:Nat} {ob:AObj} (h:(visO os o la H).get j=some ob):(visH (fun k=>memN k (reach os o)) la H).get j=some ob:=by
 unfold visO at h
 split at h
 ·simp [Heap.get] at h
 ·exact h
theorem visO_some {os:List Oper} {o:Oper} {la:List LaE} {H:Heap} {j:Nat} {ob:AObj} (h:(visO os o la H).get j=some ob):H.get j=some ob∨∃ e∈la,memN e.k (reach os o)=true∧e.h.get j=some ob:=visH_some (visO_get h)
theorem visO_up {os:List Oper} {o:Oper} {n0 n:Nat} {H:Heap} (hlow:lowKeys n0 H=true) {la la':List LaE} (hwf:WF n0 la' n) (hsub:∀ e∈la,e∈la') {j:Nat} {ob:AObj} (h:(visO os o la H).get j=some ob):(visO os o la' H).get j=some ob:=by
 unfold visO at h ⊢
 split at h
 ·simp [Heap.get] at h
 ·refine visH_of hlow hwf ?_
  rcases visH_some h with h | ⟨e,he,hk,h⟩
  ·exact .inl h
  ·exact .inr ⟨e,hsub e he,hk,h⟩
def freeOf (H:Heap):List Nat→Bool
 | [] =>true
 | j ::r=>match H.get j with
  | some _=>false
  | none=>freeOf H r
theorem freeOf_get {H:Heap} :∀ {ws:List Nat} {j:Nat} {o:AObj},freeOf H ws=true→H.get j=some o→memN j ws=false
 | [],j,o,_,_=>rfl
 | i ::r,j,o,h,hj=>by
  unfold freeOf at h
  split at h
  ·cases h
  ·rename_i hi
   have ih:=freeOf_get h hj
   cases hm:memN j (i ::r) with
   | false=>rfl
   | true=>
    exfalso
    rcases List.mem_cons.1 (memN_iff.1 hm) with e | e
    ·subst e; rw [hi] at hj; cases hj
    ·rw [memN_iff.2 e] at ih; cases ih
def earlyOk (os:List Oper) (re:List Nat) (la:List LaE) (H0:Heap) (ws:List Nat):Nat→Bool
 | 0=>true
 | k+1=>(memN k re || (match nthF os k with
  | none=>true
  | some o=>freeOf (visO os o la H0) ws)) && earlyOk os re la H0 ws k
theorem earlyOk_spec {os:List Oper} {re:List Nat} {la:List LaE} {H0:Heap} {ws:List Nat} :∀ {i:Nat},earlyOk os re la H0 ws i=true→∀ k o,k < i→os[k]? =some o→memN k re=true∨freeOf (visO os o la H0) ws=true
 | 0,_,k,o,hk,_=>by omega
 | i+1,h,k,o,hk,ho=>by
  simp only [earlyOk,nthF_eq,Bool.and_eq_true,Bool.or_eq_true] at h
  by_cases e:k=i
  ·subst e
   rw [ho] at h
   exact h.1
  ·exact earlyOk_spec h.2 k o (by omega) ho
def allIn (p:Nat→Bool):List Nat→Bool
 | [] =>true
 | j ::r=>p j && allIn p r
theorem allIn_spec {p:Nat→Bool} :∀ {l:List Nat},allIn p l=true→∀ j,memN j l=true→p j=true
 | [],_,j,hj=>by simp [memN] at hj
 | i ::r,h,j,hj=>by
  simp only [allIn,Bool.and_eq_true] at h
  rcases List.mem_cons.1 (memN_iff.1 hj) with e | e
  ·subst e; exact h.1
  ·exact allIn_spec h.2 j (memN_iff.2 e)
structure HSt where
 tm:List TV
 la:List LaE
 obs:List Prop
 kv:KV
 nid:Nat
 ef:Option Ef
def hdOp (X:Cx) (c:Bool) (os:List Oper) (o:Oper) (n0 i:Nat) (H0:Heap) (ds:List Bool) (tm:List TV) (la:List LaE) (kv:KV) (nid:Nat) (ef:Option Ef):Option (List TV×KV×TV×List LaE×Nat×Option Ef×List Prop):=
 match layOp o.op with
 | true=>match evEff X false os o tm [] nid ds kv with
  | none=>none
  | some (tm',kv',tv,⟨_,h,_,ob',_⟩)=>some (tm',kv',tv,⟨i,nid,nid+1,h⟩ ::la,nid+1,ef,ob')
 | false=>match evEff X true os o tm (offE ef (visO os o la H0)) nid ds kv with
  | some (tm',kv',tv,⟨_,_,_,ob',_⟩)=>some (tm',kv',tv,la,nid,ef,ob')
  | none=>match c with
   | false=>none
   | true=>match effO o.op with
    | false=>match evLay X os o tm (offE ef (visO os o la H0)) (pVis (fun k=>memN k (reach os o)) n0 la) nid kv with
     | none=>none
     | some (tm',kv',tv,fr,n',ob')=>some (tm',kv',tv,⟨i,nid,n',fr⟩ ::la,n',ef,ob')
    | true=>match ef with
     | some _=>none
     | none=>match evE X o tm (visO os o la H0) nid with
      | none=>none
      | some (v,H',n',ws,ob')=>match allIn (pNew (pVis (fun k=>memN k (reach os o)) n0 la) nid n') ws && earlyOk os (reach os o) la H0 ws i with
       | false=>none
       | true=>some (tm,kv, .v v,⟨i,nid,n',[]⟩ ::la,n',some ⟨i,ws,pickIds H' ws⟩,ob')
section
variable {X:Cx} {c:Bool} {os:List Oper} {o:Oper} {n0 i:Nat} {H0:Heap} {ds:List Bool} {tm tm':List TV} {la la':List LaE} {kv kv':KV} {tv:TV} {nid nid':Nat} {ef ef':Option Ef} {ob':List Prop}
theorem hdOp_cases (h:hdOp X c os o n0 i H0 ds tm la kv nid ef=some (tm',kv',tv,la',nid',ef',ob')):
  (∃ r,evEff X true os o tm (offE ef (visO os o la H0)) nid ds kv=some (tm',kv',tv,r)∧r.obs=ob'∧layOp o.op=false∧la'=la∧nid'=nid∧ef'=ef)∨
  (∃ r,evEff X false os o tm [] nid ds kv=some (tm',kv',tv,r)∧r.obs=ob'∧layOp o.op=true∧la'=⟨i,nid,nid+1,r.h⟩ ::la∧nid'=nid+1∧ef'=ef)∨
  (c=true∧∃ fr,evLay X os o tm (offE ef (visO os o la H0)) (pVis (fun k=>memN k (reach os o)) n0 la) nid kv=some (tm',kv',tv,fr,nid',ob')∧la'=⟨i,nid,nid',fr⟩ ::la∧ef'=ef)∨
  (c=true∧ef=none∧∃ v H' ws,evE X o tm (visO os o la H0) nid=some (v,H',nid',ws,ob')∧tm'=tm∧kv'=kv∧tv= .v v∧la'=⟨i,nid,nid',[]⟩ ::la∧ef'=some ⟨i,ws,pickIds H' ws⟩∧
   (∀ j,memN j ws=true→pNew (pVis (fun k=>memN k (reach os o)) n0 la) nid nid' j=true)∧(∀ k ok,k < i→os[k]? =some ok→memN k (reach os o)=true∨freeOf (visO os ok la H0) ws=true)):=by
 unfold hdOp at h
 split at h
 ·rename_i hlay
  split at h
  ·cases h
  ·rename_i he
   cases h
   exact .inr (.inl ⟨_,he,rfl,hlay,rfl,rfl,rfl⟩)
 ·rename_i hlay
  split at h
  ·rename_i he
   cases h
   exact .inl ⟨_,he,rfl,hlay,rfl,rfl,rfl⟩
  ·split at h
   ·cases h
   ·split at h
    ·split at h
     ·cases h
     ·rename_i he
      cases h
      exact .inr (.inr (.inl ⟨rfl,_,he,rfl,rfl⟩))
    ·split at h
     ·cases h
     ·split at h
      ·cases h
      ·rename_i he
       split at h
       ·cases h
       ·rename_i hok
        simp only [Bool.and_eq_true] at hok
        cases h
        exact .inr (.inr (.inr ⟨rfl,rfl,_,_,_,he,rfl,rfl,rfl,rfl,rfl,allIn_spec hok.1,earlyOk_spec hok.2⟩))
theorem hdOp_ex (h:hdOp X c os o n0 i H0 ds tm la kv nid ef=some (tm',kv',tv,la',nid',ef',ob'))
  (hk:∃ β,KVok kv β):(∃ β,KVok kv' β)∧(∀ β,KVok kv' β→KVok kv β)∧tm'.length=tm.length:=by
 rcases hdOp_cases h with ⟨r,he,_⟩ | ⟨r,he,_⟩ | ⟨_,fr,he,_⟩ | ⟨_,_,_,_,_,_,e1,e2,_⟩
 ·exact evEff_ex he hk
 ·exact evEff_ex he hk
 ·obtain⟨conds,v,obs0,hg,_⟩:=evLay_some he
  exact evGuard_ex hg hk
 ·subst e1 e2
  exact⟨hk,fun _ h=>h,rfl⟩
theorem evEff_slot' {q:Bool} {tmps tmps':List TV} {H:Heap} {n:Nat} {r:CR}
  (h:evEff X q os o tmps H n ds kv=some (tmps',kv',tv,r)) {ρ:Num} {β:Nat→Bool} (hk:KVok kv' β) (t:Nat) (x:Value):TRel ρ β (getT tmps t) x↔TRel ρ β (getT tmps' t) x:=by
 rw [evEff_eq] at h
 split at h
 ·cases h
 ·rename_i hg; cases h; exact evGuard_slot hg hk t x
 ·rename_i hg
  split at h
  ·cases h
  ·cases h; exact evGuard_slot hg hk t x
theorem hdOp_slot (h:hdOp X c os o n0 i H0 ds tm la kv nid ef=some (tm',kv',tv,la',nid',ef',ob'))
  {ρ:Num} {β:Nat→Bool} (hk:KVok kv' β) (t:Nat) (x:Value):TRel ρ β (getT tm t) x↔TRel ρ β (getT tm' t) x:=by
 rcases hdOp_cases h with ⟨r,he,_⟩ | ⟨r,he,_⟩ | ⟨_,fr,he,_⟩ | ⟨_,_,_,_,_,_,e1,e2,_⟩
 ·exact evEff_slot' he hk t x
 ·exact evEff_slot' he hk t x
 ·obtain⟨conds,v,obs0,hg,_⟩:=evLay_some he
  exact evGuard_slot hg hk t x
 ·rw [e1]
theorem hdOp_la (h:hdOp X c os o n0 i H0 ds tm la kv nid ef=some (tm',kv',tv,la',nid',ef',ob')):
  nid≤nid'∧(la'=la∨∃ fr,la'=⟨i,nid,nid',fr⟩ ::la∧∀ j o,fr.get j=some o→nid≤j∧j < nid'):=by
 rcases hdOp_cases h with ⟨r,he,_,_,e1,e2,_⟩ | ⟨r,he,_,hl,e1,e2,_⟩ | ⟨_,fr,he,e1,_⟩ | ⟨_,_,_,_,_,he,_,_,_,e1,_⟩
 ·exact⟨by omega, .inl e1⟩
 ·refine⟨by omega, .inr ⟨r.h,by rw [e1,e2],fun j o hj=> ?_⟩⟩
  obtain⟨_,hsh,_⟩:=evEff_lay hl he
  rcases hsh with e | ⟨ob,e⟩
  ·rw [e] at hj; simp [Heap.get] at hj
  ·rw [e,Heap.get_cons] at hj
   split at hj
   ·omega
   ·simp [Heap.get] at hj
 ·obtain⟨h1,h2⟩:=evLay_span he
  exact⟨h1, .inr ⟨fr,e1,h2⟩⟩
 ·obtain⟨_,h1⟩:=evE_span he
  exact⟨by omega, .inr ⟨[],e1,fun j o hj=>by simp [Heap.get] at hj⟩⟩
theorem hdOp_ef (h:hdOp X c os o n0 i H0 ds tm la kv nid ef=some (tm',kv',tv,la',nid',ef',ob')):ef'=ef∨(c=true∧ef=none∧∃ ws hw,ef'=some ⟨i,ws,hw⟩):=by
 rcases hdOp_cases h with ⟨r,_,_,_,_,_,e⟩ | ⟨r,_,_,_,_,_,e⟩ | ⟨_,fr,_,_,e⟩ | ⟨hc,e0,_,_,_,_,_,_,_,_,e,_⟩
 ·exact .inl e
 ·exact .inl e
 ·exact .inl e
 ·exact .inr ⟨hc,e0,_,_,e⟩
end
def evHd (X:Cx) (c:Bool) (os:List Oper) (n0:Nat) (H0:Heap) (ds:List Bool) (tm0:List TV) (ob0:List Prop):Nat→Option HSt
 | 0=>some ⟨tm0,[],ob0,[],n0,none⟩
 | i+1=>match evHd X c os n0 H0 ds tm0 ob0 i with
  | none=>none
  | some ⟨tm,la,ob,kv,nid,ef⟩=>match nthF os i with
   | none=>none
   | some o=>match hdOp X c os o n0 i H0 ds tm la kv nid ef with
    | none=>none
    | some (tm',kv',tv,la',nid',ef',ob')=>some ⟨setT tm' o.dst tv,la',ob'++ob,kv',nid',ef'⟩
section
variable {X:Cx} {c:Bool} {os:List Oper} {n0:Nat} {H0:Heap} {ds:List Bool} {tm0:List TV} {ob0:List Prop}
theorem evHd_succ {i:Nat} {s':HSt} (h:evHd X c os n0 H0 ds tm0 ob0 (i+1)=some s'):
  ∃ s o tm' tv ob',evHd X c os n0 H0 ds tm0 ob0 i=some s∧os[i]? =some o∧hdOp X c os o n0 i H0 ds s.tm s.la s.kv s.nid s.ef=some (tm',s'.kv,tv,s'.la,s'.nid,s'.ef,ob')∧s'.tm=setT tm' o.dst tv∧s'.obs=ob'++s.obs:=by
 simp only [evHd,nthF_eq] at h
 split at h
 ·cases h
 rename_i tm la ob kv nid ef hs
 split at h
 ·cases h
 rename_i o ho
 split at h
 ·cases h
 rename_i he
 cases h
 exact⟨_,o,_,_,_,hs,ho,he,rfl,rfl⟩
theorem evHd_some:∀ {j i:Nat} {r:HSt},i≤j→evHd X c os n0 H0 ds tm0 ob0 j=some r→∃ q,evHd X c os n0 H0 ds tm0 ob0 i=some q
 | 0,i,r,hij,h=>by
  obtain rfl:i=0:=by omega
  exact⟨r,h⟩
 | j+1,i,r,hij,h=>by
  by_cases e:i=j+1
  ·subst e; exact⟨r,h⟩
  ·obtain⟨s,o,_,_,_,hs,_⟩:=evHd_succ h
   exact evHd_some (by omega) hs
theorem evHd_obs:∀ {j i:Nat} {si sj:HSt},i≤j→evHd X c os n0 H0 ds tm0 ob0 i=some si→evHd X c os n0 H0 ds tm0 ob0 j=some sj→allP sj.obs→allP si.obs
 | 0,i,si,sj,hij,h1,h2,hl=>by
  obtain rfl:i=0:=by omega
  rw [h1] at h2; cases h2; exact hl
 | j+1,i,si,sj,hij,h1,h2,hl=>by
  by_cases e:i=j+1
  ·subst e; rw [h1] at h2; cases h2; exact hl
  ·obtain⟨s,o,_,_,_,hs,_,_,_,ho⟩:=evHd_succ h2
   rw [ho] at hl
   exact evHd_obs (by omega) h1 hs ((allP_append _ _).1 hl).2
theorem evHd_keys:∀ {i:Nat} {s:HSt},evHd X c os n0 H0 ds tm0 ob0 i=some s→(∃ β,KVok s.kv β)∧s.tm.length=tm0.length
 | 0,s,h=>by simp only [evHd] at h; cases h; exact⟨⟨fun _=>false,fun p hp=>by cases hp⟩,rfl⟩
 | i+1,s,h=>by
  obtain⟨s1,o,_,_,_,hs,_,he,h1,_⟩:=evHd_succ h
  obtain⟨e1,e2⟩:=evHd_keys hs
  obtain⟨g1,_,g3⟩:=hdOp_ex he e1
  exact⟨g1,by rw [h1,setT_length]; omega⟩
theorem evHd_sub {β:Nat→Bool} :∀ {j i:Nat} {si sj:HSt},i≤j→evHd X c os n0 H0 ds tm0 ob0 i=some si→evHd X c os n0 H0 ds tm0 ob0 j=some sj→KVok sj.kv β→KVok si.kv β
 | 0,i,si,sj,hij,h1,h2,hk=>by
  obtain rfl:i=0:=by omega
  rw [h1] at h2; cases h2; exact hk
 | j+1,i,si,sj,hij,h1,h2,hk=>by
  by_cases e:i=j+1
  ·subst e; rw [h1] at h2; cases h2; exact hk
  ·obtain⟨s,o,_,_,_,hs,_,he,_⟩:=evHd_succ h2
   exact evHd_sub (by omega) h1 hs ((hdOp_ex he (evHd_keys hs).1).2.1 β hk)
theorem evHd_slot {ρ:Num} {β:Nat→Bool} {t:Nat} {r:Value} :∀ {j i:Nat} {si sj:HSt},i≤j→evHd X c os n0 H0 ds tm0 ob0 i=some si→evHd X c os n0 H0 ds tm0 ob0 j=some sj→KVok sj.kv β→
  (∀ k o,i≤k→k < j→os[k]? =some o→o.dst≠some t)→(TRel ρ β (getT si.tm t) r↔TRel ρ β (getT sj.tm t) r)
 | 0,i,si,sj,hij,h1,h2,_,_=>by
  obtain rfl:i=0:=by omega
  rw [h1] at h2; cases h2; exact Iff.rfl
 | j+1,i,si,sj,hij,h1,h2,hk,hw=>by
  by_cases e:i=j+1
  ·subst e; rw [h1] at h2; cases h2; exact Iff.rfl
  ·obtain⟨s,o,tm',tv,ob',hs,hoj,he,e1,_⟩:=evHd_succ h2
   have hkv:KVok s.kv β:=evHd_sub (by omega) hs h2 hk
   refine (evHd_slot (by omega) h1 hs hkv (fun k o' hk1 hk2=>hw k o' hk1 (by omega))).trans ?_
   rw [e1,setT_getT,if_neg (fun hh=>hw j o (by omega) (by omega) hoj hh.1)]
   exact hdOp_slot he hk t r
theorem evHd_wf:∀ {i:Nat} {s:HSt},evHd X c os n0 H0 ds tm0 ob0 i=some s→WF n0 s.la s.nid∧∀ e∈s.la,e.k < i
 | 0,s,h=>by simp only [evHd] at h; cases h; exact⟨Nat.le_refl _,fun e he=>by cases he⟩
 | i+1,s,h=>by
  obtain⟨s1,o,_,_,_,hs,_,he,_⟩:=evHd_succ h
  obtain⟨h1,h2⟩:=evHd_wf hs
  obtain⟨g1,g2⟩:=hdOp_la he
  rcases g2 with g2 | ⟨fr,g2,g3⟩
  ·rw [g2]
   exact⟨h1.mono g1,fun e he=>Nat.lt_succ_of_lt (h2 e he)⟩
  ·rw [g2]
   refine⟨⟨h1,g1,Nat.le_refl _,g3⟩,fun e he=> ?_⟩
   rcases List.mem_cons.1 he with rfl | he
   ·exact Nat.lt_succ_self _
   ·exact Nat.lt_succ_of_lt (h2 e he)
theorem evHd_ext:∀ {j i:Nat} {si sj:HSt},i≤j→evHd X c os n0 H0 ds tm0 ob0 i=some si→evHd X c os n0 H0 ds tm0 ob0 j=some sj→si.nid≤sj.nid∧∃ ex,sj.la=ex++si.la∧∀ e∈ex,i≤e.k∧si.nid≤e.lo
 | 0,i,si,sj,hij,h1,h2=>by
  obtain rfl:i=0:=by omega
  rw [h1] at h2; cases h2
  exact⟨Nat.le_refl _,[],rfl,fun e he=>by cases he⟩
 | j+1,i,si,sj,hij,h1,h2=>by
  by_cases e:i=j+1
  ·subst e; rw [h1] at h2; cases h2
   exact⟨Nat.le_refl _,[],rfl,fun e he=>by cases he⟩
  ·obtain⟨s1,o,_,_,_,hs,_,he,_⟩:=evHd_succ h2
   obtain⟨f1,ex,f2,f3⟩:=evHd_ext (by omega) h1 hs
   obtain⟨g1,g2⟩:=hdOp_la he
   refine⟨Nat.le_trans f1 g1,?_⟩
   rcases g2 with g2 | ⟨fr,g2,_⟩
   ·exact⟨ex,by rw [g2,f2],f3⟩
   ·refine⟨⟨j,s1.nid,sj.nid,fr⟩ ::ex,by rw [g2,f2]; rfl,fun e he=> ?_⟩
    rcases List.mem_cons.1 he with rfl | he
    ·exact⟨by show i≤j; omega,f1⟩
    ·exact f3 e he
end
theorem visE_mono {f g:Nat→Bool} {ef:Option Ef} (hf:∀ e ws hw,ef=some ⟨e,ws,hw⟩→f e=g e) {H H2:Heap} (hs:∀ j o,H.get j=some o→H2.get j=some o):∀ j o,(visE f ef H).get j=some o→(visE g ef H2).get j=some o:=by
 intro j o h
 cases ef with
 | none=>exact hs j o h
 | some q=>
  obtain⟨e,ws,hw⟩:=q
  have he:=hf e ws hw rfl
  simp only [visE,← he] at h ⊢
  split at h
  ·rw [hget_append] at h ⊢
   split at h
   ·exact h
   ·obtain⟨h1,h2⟩:=dropIds_get h
    exact dropIds_of (hs j o h1) h2
  ·exact hs j o h
section
variable {X:Cx} {c:Bool} {os:List Oper} {n0:Nat} {H0:Heap} {ds:List Bool} {tm0:List TV} {ob0:List Prop}
theorem evHd_ef:∀ {j i:Nat} {si sj:HSt},i≤j→evHd X c os n0 H0 ds tm0 ob0 i=some si→evHd X c os n0 H0 ds tm0 ob0 j=some sj→sj.ef=si.ef∨si.ef=none
 | 0,i,si,sj,hij,h1,h2=>by
  obtain rfl:i=0:=by omega
  rw [h1] at h2; cases h2
  exact .inl rfl
 | j+1,i,si,sj,hij,h1,h2=>by
  by_cases e:i=j+1
  ·subst e; rw [h1] at h2; cases h2
   exact .inl rfl
  ·obtain⟨s1,o,_,_,_,hs,_,he,_⟩:=evHd_succ h2
   have ih:=evHd_ef (by omega) h1 hs
   rcases hdOp_ef he with g | ⟨_,g,_⟩
   ·rw [g]; exact ih
   ·rcases ih with e' | e'
    ·exact .inr (e'.symm.trans g)
    ·exact .inr e'
theorem evHd_quiet:∀ {j:Nat} {sj:HSt},evHd X false os n0 H0 ds tm0 ob0 j=some sj→sj.ef=none
 | 0,sj,h=>by simp only [evHd] at h; cases h; rfl
 | j+1,sj,h=>by
  obtain⟨s1,o,_,_,_,hs,_,he,_⟩:=evHd_succ h
  rcases hdOp_ef he with g | ⟨g,_⟩
  ·rw [g]; exact evHd_quiet hs
  ·cases g
theorem evHd_wrote:∀ {m:Nat} {sm:HSt},evHd X c os n0 H0 ds tm0 ob0 m=some sm→∀ {e:Nat} {ws:List Nat} {hw:Heap},sm.ef=some ⟨e,ws,hw⟩→
  ∃ se s1 oe H',e < m∧evHd X c os n0 H0 ds tm0 ob0 e=some se∧evHd X c os n0 H0 ds tm0 ob0 (e+1)=some s1∧os[e]? =some oe∧se.ef=none∧s1.ef=some ⟨e,ws,hw⟩∧s1.la=⟨e,se.nid,s1.nid,[]⟩ ::se.la∧hw=pickIds H' ws∧
   (∀ j,memN j ws=true→pNew (pVis (fun k=>memN k (reach os oe)) n0 se.la) se.nid s1.nid j=true)∧(∀ k ok,k < e→os[k]? =some ok→memN k (reach os oe)=true∨freeOf (visO os ok se.la H0) ws=true)
 | 0,sm,h,e,ws,hw,he=>by simp only [evHd] at h; cases h; cases he
 | m+1,sm,h,e,ws,hw,he=>by
  obtain⟨s1,o,tm',tv,ob',hs,ho,hop,_⟩:=evHd_succ h
  have old:sm.ef=s1.ef→_:=fun g=>evHd_wrote hs (g ▸ he)
  have lift:sm.ef=s1.ef→∃ se s1 oe H',e < m+1∧evHd X c os n0 H0 ds tm0 ob0 e=some se∧evHd X c os n0 H0 ds tm0 ob0 (e+1)=some s1∧os[e]? =some oe∧se.ef=none∧s1.ef=some ⟨e,ws,hw⟩∧s1.la=⟨e,se.nid,s1.nid,[]⟩ ::se.la∧hw=pickIds H' ws∧
   (∀ j,memN j ws=true→pNew (pVis (fun k=>memN k (reach os oe)) n0 se.la) se.nid s1.nid j=true)∧(∀ k ok,k < e→os[k]? =some ok→memN k (reach os oe)=true∨freeOf (visO os ok se.la H0) ws=true):=fun g=>by
   obtain⟨se,s1',oe,H',g0,g1⟩:=old g
   exact⟨se,s1',oe,H',by omega,g1⟩
  rcases hdOp_cases hop with ⟨r,_,_,_,_,_,g⟩ | ⟨r,_,_,_,_,_,g⟩ | ⟨_,fr,_,_,g⟩ | ⟨_,g0,v,H',ws',hev,_,_,_,gla,gef,g1,g2⟩
  ·exact lift g
  ·exact lift g
  ·exact lift g
  ·rw [he] at gef
   cases gef
   exact⟨s1,sm,o,H',by omega,hs,h,ho,g0,he,gla,rfl,g1,g2⟩
end
def AgL (la:List LaE) (n0:Nat) (listed:Array Bool) (ρ ρ':Num):Prop:=∀ j,(j < n0∨∃ e∈la,Lst listed e.k∧e.lo≤j∧j < e.hi)→ρ' j=ρ j
def seen (listed:Array Bool) (k:Nat):Bool:=listed.getD k false
structure HalfL (X:Cx) (J:Inv X.P) (B:Nat) (M:Nat→Prop) (w0:Bas) (os:List Oper) (m:Nat) (s0:St) (a0:Act) (ρ0:Num) (sm:HSt) (listed:Array Bool) (a:Act) (w:World):Prop where
 size:listed.size=os.length
 closed:∀ j o,os[j]? =some o→Lst listed j→∀ e∈predsOf o,Lst listed e
 late:∀ t,m≤t→¬ Lst listed t
 asize:a.tmps.size=s0.tmps.length
 defers:a.defers=w0.dfs
 base:B≤w.heap.size
 inv:J.I w
 keeps:Keeps B M w0.w w
 old:∀ t,(∀ k o,k < m→Lst listed k→os[k]? =some o→o.dst≠some t)→a.tmps.getD t undef=a0.tmps.getD t undef
 rep:∃ ρ,Agree s0.nid ρ0 ρ∧∀ ρ',AgL sm.la s0.nid listed ρ ρ'→Sim X.P B M ρ' (visE (seen listed) sm.ef (visH (seen listed) sm.la s0.heap)) w∧
  ∀ k o d,k < m→Lst listed k→os[k]? =some o→o.dst=some d→∀ β,KVok sm.kv β→TRel ρ' β (getT sm.tm d) (a.tmps.getD d undef)
def HSt.toSt (h:HSt) (s:St):St:=⟨h.tm,visE (fun _=>true) h.ef (visH (fun _=>true) h.la s.heap),h.nid,s.ds,h.obs,s.lp,s.rd,s.mks,s.bs⟩
theorem halfL_all {X:Cx} {J:Inv X.P} {c:Bool} {B:Nat} {M:Nat→Prop} {w0:Bas} {os:List Oper} {m:Nat} {s0:St} {a0:Act} {ρ:Num} {sm:HSt} (hm:evHd X c os s0.nid s0.heap s0.ds s0.tmps s0.obs m=some sm) (hlow:lowKeys s0.nid s0.heap=true)
  (h0:∀ ρ',Agree s0.nid ρ ρ'→∀ β t,TRel ρ' β (getT s0.tmps t) (a0.tmps.getD t undef)) {listed:Array Bool} {a:Act} {w:World}
  (h:HalfL X J B M w0 os m s0 a0 ρ sm listed a w) (hρ0:w0.n≤s0.nid∧Agree w0.n w0.ρ ρ) (hall:∀ k,k < m→Lst listed k):RepR X.P J B M w0 sm.kv (sm.toSt s0) a w:=by
 obtain⟨e4,e5⟩:=evHd_keys hm
 obtain⟨hwf,hlt⟩:=evHd_wf hm
 obtain⟨ρ1,hρ1,hrep⟩:=h.rep
 have hle:s0.nid≤sm.nid:=hwf.le
 refine⟨by show _=sm.tm.length; rw [e5]; exact h.asize,h.defers,h.base,h.inv,h.keeps,e4,ρ1,⟨by show _≤sm.nid; omega,hρ0.2.trans hρ1 hρ0.1⟩,fun ρ' ha=> ?_⟩
 have ha:Agree sm.nid ρ1 ρ':=ha
 have hL:AgL sm.la s0.nid listed ρ1 ρ':=fun j hj=>ha j (by
  rcases hj with hj | ⟨e,he,_,_,h2⟩
  ·omega
  ·have:=(hwf.span e he).2.2.1
   omega)
 obtain⟨hsim,hnew⟩:=hrep ρ' hL
 refine⟨hsim.less fun j o hj=> ?_,fun β hβ t=> ?_⟩
 ·refine visE_mono (f:=fun _=>true) (fun e ws hw he=> ?_) (fun j o hj=> ?_) j o hj
  ·obtain⟨_,_,_,_,hem,_⟩:=evHd_wrote hm he
   exact (hall e hem).symm
  refine visH_of hlow hwf ?_
  rcases visH_some (f:=fun _=>true) (la:=sm.la) (H0:=s0.heap) hj with hj | ⟨e,he,_,hj⟩
  ·exact .inl hj
  ·exact .inr ⟨e,he,hall e.k (hlt e he),hj⟩
 ·by_cases hw:∃ k o,k < m∧os[k]? =some o∧o.dst=some t
  ·obtain⟨k,o,hk,ho,hdst⟩:=hw
   exact hnew k o t hk (hall k hk) ho hdst β hβ
  ·have hno:∀ k o,k < m→os[k]? =some o→o.dst≠some t:=fun k o hk ho e=>hw ⟨k,o,hk,ho,e⟩
   rw [h.old t (fun k o hk _ ho=>hno k o hk ho)]
   exact (evHd_slot (Nat.zero_le m) rfl hm hβ (fun k o _ hk ho=>hno k o hk ho)).1 (h0 ρ' (hρ1.trans (fun i hi=>ha i (by omega)) (Nat.le_refl _)) β t)
theorem halfL_step {X:Cx} {J:Inv X.P} (hX:CxOk X J) {c:Bool} {B:Nat} {M:Nat→Prop} (hp:Par X.P B M) {w0:Bas} {os:List Oper} {m:Nat} (hd:Draws os m) {s0:St} {a0:Act} {ρ0:Num} {sm:HSt} (hm:evHd X c os s0.nid s0.heap s0.ds s0.tmps s0.obs m=some sm) (hlow:lowKeys s0.nid s0.heap=true) (hl:allP sm.obs)
  (h0:∀ ρ',Agree s0.nid ρ0 ρ'→∀ β t,TRel ρ' β (getT s0.tmps t) (a0.tmps.getD t undef)) {listed:Array Bool} {a:Act} {w:World}
  (h:HalfL X J B M w0 os m s0 a0 ρ0 sm listed a w) {i:Nat} (him:i < m) (hr:i∈Region.ready .any ⟨os⟩ listed) {rb:Option Nat} {K:Act→World→Prop} {Q:Exit→Act→World→Prop}
  (hK:∀ a' w',HalfL X J B M w0 os m s0 a0 ρ0 sm (listed.setIfInBounds i true) a' w'→K a' w'):wpOpIn (Fl rb) 0 X.P ⟨os⟩ Q i K a w:=by
 obtain⟨⟨hi,hnl⟩,o,ho,hpre⟩:=ready_iff.1 hr
 obtain⟨s1,hq1⟩:=evHd_some (i:=i+1) (by omega) hm
 obtain⟨si,o',tmps',tv,ob',hsi,ho',he,e1,e3⟩:=evHd_succ hq1
 rw [ho] at ho'
 cases ho'
 have hobs:=evHd_obs (by omega) hq1 hm hl
 rw [e3] at hobs
 obtain⟨_,elen⟩:=evHd_keys hsi
 simp only [allP_append] at hobs
 have hsub:∀ β,KVok sm.kv β→KVok s1.kv β:=fun β hβ=>evHd_sub (by omega) hq1 hm hβ
 have hsubi:∀ β,KVok sm.kv β→KVok si.kv β:=fun β hβ=>evHd_sub (by omega) hsi hm hβ
 obtain⟨hwf,_⟩:=evHd_wf hm
 obtain⟨hwfi,hlti⟩:=evHd_wf hsi
 obtain⟨hwf1,_⟩:=evHd_wf hq1
 obtain⟨hn1,hla1⟩:=hdOp_la he
 obtain⟨_,ex,hex1,hex2⟩:=evHd_ext (by omega:i+1≤m) hq1 hm
 have hn0:s0.nid≤si.nid:=hwfi.le
 have hsi_sm:∀ e∈si.la,e∈sm.la:=fun e he'=>by
  rw [hex1]
  refine List.mem_append_right _ ?_
  rcases hla1 with g | ⟨fr,g,_⟩
  ·rw [g]; exact he'
  ·rw [g]; exact List.mem_cons_of_mem _ he'
 have entry:∀ e∈sm.la,(e∈si.la)∨(e.k=i∧e∈s1.la)∨(i < e.k∧s1.nid≤e.lo):=fun e he'=>by
  rw [hex1] at he'
  rcases List.mem_append.1 he' with he' | he'
  ·have:=hex2 e he'
   exact .inr (.inr ⟨by omega,this.2⟩)
  ·rcases hla1 with g | ⟨fr,g,_⟩
   ·rw [g] at he'; exact .inl he'
   ·have he2:=he'
    rw [g] at he'
    rcases List.mem_cons.1 he' with e' | he'
    ·exact .inr (.inl ⟨by rw [e'],he2⟩)
    ·exact .inl he'
 have apart:∀ e∈sm.la,e.k≠i→∀ j,e.lo≤j→j < e.hi→¬ (si.nid≤j∧j < s1.nid):=fun e he' hne j h1 h2 h3=>by
  rcases entry e he' with h' | h' | h'
  ·have:=(hwfi.span e h').2.2.1
   omega
  ·exact hne h'.1
  ·omega
 obtain⟨ρ,hρ0,hrep⟩:=h.rep
 have hisz:i < listed.size:=hi
 have hback:∀ ρ1:Num,(∀ j,¬ (si.nid≤j∧j < s1.nid)→ρ1 j=ρ j)→∀ ρ',AgL sm.la s0.nid (listed.setIfInBounds i true) ρ1 ρ'→AgL sm.la s0.nid listed ρ ρ':=fun ρ1 hρ1 ρ' ha j hj=>by
  have h1:=ha j (by
   rcases hj with hj | ⟨e,he',hle,hjk⟩
   ·exact .inl hj
   ·exact .inr ⟨e,he',(lst_set hisz).2 (.inr hle),hjk⟩)
  rw [h1]
  refine hρ1 j ?_
  rcases hj with hj | ⟨e,he',hle,h2,h3⟩
  ·omega
  ·exact apart e he' (fun e'=>hnl (by rw [← e']; exact hle)) j h2 h3
 have hT:∀ ρ',AgL sm.la s0.nid listed ρ ρ'→∀ β,KVok sm.kv β→∀ t∈looks os o,TRel ρ' β (getT si.tm t) (a.tmps.getD t undef):=by
  intro ρ' ha β hβ t ht
  obtain⟨_,hnw⟩:=hrep ρ' ha
  by_cases hw:∃ k ok,k < m∧Lst listed k∧os[k]? =some ok∧ok.dst=some t
  ·obtain⟨k,ok,hk,hlk,hok,hdk⟩:=hw
   have hki:k < i:=by
    rcases hd.slot i o him ho t ht k ok hk hok hdk with e | e | e
    ·subst e; exact absurd hlk hnl
    ·exact hd.fwd i o ho k e
    ·exact absurd (h.closed k ok hok hlk i e) hnl
   have:=hnw k ok t hk hlk hok hdk β hβ
   refine (evHd_slot (by omega:i≤m) hsi hm hβ (fun k2 o2 hk1 hk2 ho2 hd2=> ?_)).2 this
   have:=hd.dup k k2 ok o2 t hk hk2 hok ho2 hdk hd2
   omega
  ·have hno:∀ k ok,k < m→Lst listed k→os[k]? =some ok→ok.dst≠some t:=fun k ok hk hlk hok e=>hw ⟨k,ok,hk,hlk,hok,e⟩
   rw [h.old t hno]
   refine (evHd_slot (Nat.zero_le i) rfl hsi (hsubi β hβ) (fun k ok _ hk hok hdk=> ?_)).1 (h0 ρ' (fun j hj=> ?_) β t)
   ·rcases hd.slot i o him ho t ht k ok (by omega) hok hdk with e | e | e
    ·omega
    ·exact hno k ok (by omega) (hpre k e) hok hdk
    ·have:=hd.fwd k ok hok i e
     omega
   ·rw [ha j (.inl hj)]; exact hρ0 j hj
 have hreach:∀ k,memN k (reach os o)=true→Lst listed k:=by
  intro k hk
  refine closeP_in (L:=Lst listed) (fun p hp e he=> ?_) 400 (predsOf o) [] hpre (fun p hp=>by cases hp) k (memN_iff.1 hk)
  unfold predsAt at he
  split at he
  ·rename_i op hop; exact h.closed p op hop hp e he
  ·cases he
 have hSeen:∀ k,seen (listed.setIfInBounds i true) k=true↔k=i∨seen listed k=true:=fun k=>lst_set hisz
 have hsee:∀ j ob,(visO os o si.la s0.heap).get j=some ob→(visH (seen listed) sm.la s0.heap).get j=some ob:=fun j ob hj=>by
  refine visH_of hlow hwf ?_
  rcases visO_some hj with hj | ⟨e,he',hk,hj⟩
  ·exact .inl hj
  ·exact .inr ⟨e,hsi_sm e he',hreach e.k hk,hj⟩
 have fin:∀ (ρ1:Num),(∀ j,¬ (si.nid≤j∧j < s1.nid)→ρ1 j=ρ j)→∀ (Hr:Heap) (v:Value) (w':World),(∀ j ob,(visE (seen (listed.setIfInBounds i true)) sm.ef (visH (seen (listed.setIfInBounds i true)) sm.la s0.heap)).get j=some ob→Hr.get j=some ob)→
   (∀ ρ',AgL sm.la s0.nid (listed.setIfInBounds i true) ρ1 ρ'→Sim X.P B M ρ' Hr w'∧∀ β,KVok sm.kv β→TRel ρ' β tv v)→Keeps B M w w'→K (a.put o.dst v) w':=by
  intro ρ1 hρ1 Hr v w' hHr hfin hk
  have hag1:Agree s0.nid ρ0 ρ1:=fun j hj=>by rw [hρ1 j (by omega)]; exact hρ0 j hj
  refine hK _ _ ?_
  refine⟨by simpa using h.size,fun j oj hoj hlj e he'=> ?_,fun t ht hlt'=> ?_,by rw [put_size]; exact h.asize,by rw [put_defers]; exact h.defers,Nat.le_trans h.base hk.size,J.keeps hp hk h.inv,h.keeps.trans hk,
   fun t hno=> ?_,ρ1,hag1,fun ρ' ha'=>⟨(hfin ρ' ha').1.less hHr,fun k ok d hkm hlk hok hdk β hβ=> ?_⟩⟩
  ·rw [lst_set hisz] at hlj ⊢
   rcases hlj with rfl | hlj
   ·rw [ho] at hoj; cases hoj
    exact .inr (hpre e he')
   ·exact .inr (h.closed j oj hoj hlj e he')
  ·rw [lst_set hisz] at hlt'
   rcases hlt' with rfl | hlt'
   ·omega
   ·exact h.late t ht hlt'
  ·rw [put_getD,if_neg (fun hh=>hno i o him ((lst_set hisz).2 (.inl rfl)) ho hh.1)]
   exact h.old t (fun k ok hkm hlk hok=>hno k ok hkm ((lst_set hisz).2 (.inr hlk)) hok)
  ·rw [put_getD]
   by_cases hki:k=i
   ·subst hki
    rw [ho] at hok
    cases hok
    by_cases hds:d < a.tmps.size
    ·rw [if_pos ⟨hdk,hds⟩]
     have hslot:=evHd_slot (X:=X) (os:=os) (ρ:=ρ') (β:=β) (t:=d) (r:=v) (by omega:k+1≤m) hq1 hm hβ (fun k2 o2 hk1 hk2 ho2 hd2=>by
      have:=hd.dup k k2 o o2 d hkm hk2 ho ho2 hdk hd2
      omega)
     rw [← hslot,e1]
     obtain⟨_,_,hl'⟩:=hdOp_ex he (evHd_keys hsi).1
     rw [setT_getT,if_pos ⟨hdk,by rw [hl',elen,← h.asize]; exact hds⟩]
     exact (hfin ρ' ha').2 β hβ
    ·
     have hnone:getT sm.tm d= .unk:=by
      simp only [getT_def]
      have e7:sm.tm.length=s0.tmps.length:=(evHd_keys hm).2
      have e8:a.tmps.size=s0.tmps.length:=h.asize
      have e9:a.tmps.size≤d:=Nat.le_of_not_lt hds
      rw [List.getElem?_eq_none (by omega)]
     rw [hnone]
     trivial
   ·have hlk':Lst listed k:=by
     rcases (lst_set hisz).1 hlk with e | e
     ·exact absurd e hki
     ·exact e
    have hne:o.dst≠some d:=fun e=>hki (hd.dup k i ok o d hkm him hok ho hdk e)
    rw [if_neg (fun hh=>hne hh.1)]
    exact (hrep ρ' (hback ρ1 hρ1 ρ' ha')).2 k ok d hkm hlk' hok hdk β hβ
 have front:∀ (fr:Heap),s1.la=⟨i,si.nid,s1.nid,fr⟩ ::si.la→∀ j ob,(visH (seen (listed.setIfInBounds i true)) sm.la s0.heap).get j=some ob→Heap.get (fr++visH (seen listed) sm.la s0.heap) j=some ob:=by
  intro fr hfr j ob hj
  have hkeys:∀ j o,fr.get j=some o→si.nid≤j∧j < s1.nid:=by
   rw [hfr] at hwf1
   exact hwf1.2.2.2
  have far:(j < s0.nid∨∃ e∈sm.la,e.k≠i∧e.lo≤j∧j < e.hi)→fr.get j=none:=fun hj'=>by
   cases hq:fr.get j with
   | none=>rfl
   | some o2=>
    have:=hkeys j o2 hq
    rcases hj' with h' | ⟨e,he',hne,h2,h3⟩
    ·omega
    ·exact absurd this (apart e he' hne j h2 h3)
  rw [hget_append]
  rcases visH_some hj with hj' | ⟨e,he',hk,hj'⟩
  ·rw [far (.inl (lowKeys_get hlow hj'))]
   exact visH_of hlow hwf (.inl hj')
  ·by_cases hki:e.k=i
   ·have:e=⟨i,si.nid,s1.nid,fr⟩:=by
     rcases entry e he' with h' | h' | h'
     ·have:=hlti e h'; omega
     ·have h2:=h'.2
      rw [hfr] at h2
      rcases List.mem_cons.1 h2 with h2 | h2
      ·exact h2
      ·have:=hlti e h2; omega
     ·omega
    rw [this] at hj'
    rw [hj']
   ·obtain⟨_,_,_,h4⟩:=hwf.span e he'
    have:=h4 j ob hj'
    rw [far (.inr ⟨e,he',hki,this.1,this.2⟩)]
    rcases (hSeen e.k).1 hk with h' | h'
    ·exact absurd h' hki
    ·exact visH_of hlow hwf (.inr ⟨e,he',h',hj'⟩)
 have calm:s1.la=si.la→∀ j ob,(visH (seen (listed.setIfInBounds i true)) sm.la s0.heap).get j=some ob→(visH (seen listed) sm.la s0.heap).get j=some ob:=by
  intro hno j ob hj
  refine visH_of hlow hwf ?_
  rcases visH_some hj with hj' | ⟨e,he',hk,hj'⟩
  ·exact .inl hj'
  ·refine .inr ⟨e,he',?_,hj'⟩
   rcases (hSeen e.k).1 hk with h' | h'
   ·exfalso
    rcases entry e he' with g | g | g
    ·have:=hlti e g; omega
    ·have g2:=g.2
     rw [hno] at g2
     have:=hlti e g2; omega
    ·omega
   ·exact h'
 have wrote:∀ {e ws hw},sm.ef=some ⟨e,ws,hw⟩→s1.ef=si.ef→e≠i∧(∀ j o,memN j ws=false→hw.get j=some o→False)∧(∀ j o,hw.get j=some o→memN j ws=true)∧(e < i→si.ef=some ⟨e,ws,hw⟩)∧(i < e→si.ef=none)∧
   (seen listed e=true→∀ j,memN j ws=true→¬ (si.nid≤j∧j < s1.nid))∧(i < e→seen listed e=true→∀ j ob,(visO os o si.la s0.heap).get j=some ob→memN j ws=false):=by
  intro e ws hw hsm hns
  obtain⟨se,sx,oe,H',hem,hse,hsx,hoe,g1,g2,g3,g4,g5,g6⟩:=evHd_wrote hm hsm
  have hei:e≠i:=fun e'=>by
   subst e'
   rw [hsi] at hse; cases hse
   rw [hq1] at hsx; cases hsx
   rw [hns,g1] at g2
   cases g2
  obtain⟨_,exx,hexx1,_⟩:=evHd_ext (by omega:e+1≤m) hsx hm
  have hse_sm:∀ e'∈se.la,e'∈sm.la:=fun e' he'=>by
   rw [hexx1,g3]
   exact List.mem_append_right _ (List.mem_cons_of_mem _ he')
  have hreachE:seen listed e=true→∀ k,memN k (reach os oe)=true→Lst listed k:=by
   intro hle k hk
   refine closeP_in (L:=Lst listed) (fun p hp e he=> ?_) 400 (predsOf oe) [] (fun p hp=>h.closed e oe hoe hle p hp) (fun p hp=>by cases hp) k (memN_iff.1 hk)
   unfold predsAt at he
   split at he
   ·rename_i op hop; exact h.closed p op hop hp e he
   ·cases he
  refine⟨hei,fun j o hj hg=> ?_,fun j o hg=> ?_,fun hlt=> ?_,fun hlt=> ?_,fun hle j hj hcon=> ?_,fun hlt hle j ob hj=> ?_⟩
  ·rw [g4,pickIds_none hj] at hg; cases hg
  ·rw [g4] at hg; exact (pickIds_get hg).2
  ·rcases evHd_ef (by omega:e+1≤i) hsx hsi with e' | e'
   ·rw [e',g2]
   ·rw [g2] at e'; cases e'
  ·rcases evHd_ef (by omega:i≤e) hsi hse with e' | e'
   ·rw [← e',g1]
   ·exact e'
  ·have:=g5 j hj
   simp only [pNew,Bool.or_eq_true,Bool.and_eq_true,Nat.ble_eq,Nat.blt_eq] at this
   rcases this with h' | h'
   ·rcases pVis_spec h' with h' | ⟨e',he',hk,h2,h3⟩
    ·omega
    ·exact apart e' (hse_sm e' he') (fun e''=>hnl (by rw [← e'']; exact hreachE hle e'.k hk)) j h2 h3 hcon
   ·exact apart ⟨e,se.nid,sx.nid,[]⟩ (by rw [hexx1,g3]; simp) hei j h'.1 h'.2 hcon
  ·obtain⟨hwfs,_⟩:=evHd_wf hse
   obtain⟨_,exy,hexy,_⟩:=evHd_ext (by omega:i≤e) hsi hse
   rcases g6 i o hlt ho with h' | h'
   ·exact absurd (hreachE hle i h') hnl
   ·exact freeOf_get h' (j:=j) (o:=ob) (visO_up hlow hwfs (fun e' he'=>by rw [hexy]; exact List.mem_append_right _ he') hj)
 have same:∀ {e},e≠i→seen (listed.setIfInBounds i true) e=seen listed e:=fun {e} hne=>by
  have h1:=hSeen e
  cases hs:seen listed e with
  | true=>exact h1.2 (.inr hs)
  | false=>
   cases hs':seen (listed.setIfInBounds i true) e with
   | false=>rfl
   | true=>
    rcases h1.1 hs' with h' | h'
    ·exact absurd h' hne
    ·rw [hs] at h'; cases h'
 have hseeE:s1.ef=si.ef→∀ j ob,(offE si.ef (visO os o si.la s0.heap)).get j=some ob→(visE (seen listed) sm.ef (visH (seen listed) sm.la s0.heap)).get j=some ob:=by
  intro hns j ob hj
  cases hsm:sm.ef with
  | none=>
   have:si.ef=none:=by
    rcases evHd_ef (by omega:i≤m) hsi hm with e | e
    ·rw [← e,hsm]
    ·exact e
   rw [this] at hj
   exact hsee j ob hj
  | some q=>
   obtain⟨e,ws,hw⟩:=q
   obtain⟨hei,w1,w2,w3,w4,w5,w6⟩:=wrote hsm hns
   have key:∀ j ob,(visO os o si.la s0.heap).get j=some ob→(seen listed e=true→memN j ws=false)→(visE (seen listed) (some ⟨e,ws,hw⟩) (visH (seen listed) sm.la s0.heap)).get j=some ob:=by
    intro j ob g1 g2
    simp only [visE]
    split
    ·rename_i hse
     rw [hget_append]
     split
     ·rename_i o2 ho2
      exact absurd ho2 (fun hh=>w1 j o2 (g2 hse) hh)
     ·exact dropIds_of (hsee j ob g1) (g2 hse)
    ·exact hsee j ob g1
   rcases Nat.lt_or_gt_of_ne hei with hlt | hlt
   ·rw [w3 hlt] at hj
    obtain⟨g1,g2⟩:=dropIds_get hj
    exact key j ob g1 (fun _=>g2)
   ·rw [w4 hlt] at hj
    exact key j ob hj (fun hse=>w6 hlt hse j ob hj)
 have frontE:∀ (fr:Heap),s1.la=⟨i,si.nid,s1.nid,fr⟩ ::si.la→s1.ef=si.ef→∀ j ob,(visE (seen (listed.setIfInBounds i true)) sm.ef (visH (seen (listed.setIfInBounds i true)) sm.la s0.heap)).get j=some ob→
   Heap.get (fr++visE (seen listed) sm.ef (visH (seen listed) sm.la s0.heap)) j=some ob:=by
  intro fr hfr hns j ob hj
  cases hsm:sm.ef with
  | none=>rw [hsm] at hj; exact front fr hfr j ob hj
  | some q=>
   obtain⟨e,ws,hw⟩:=q
   obtain⟨hei,w1,w2,w3,w4,w5,w6⟩:=wrote hsm hns
   rw [hsm] at hj
   simp only [visE,same hei] at hj ⊢
   split at hj
   ·rename_i hse
    rw [hget_append] at hj
    split at hj
    ·rename_i o2 ho2
     cases hj
     rw [hget_append,hget_append,ho2]
     cases hq:fr.get j with
     | none=>rfl
     | some o3=>
      exfalso
      have hkeys:∀ j o,fr.get j=some o→si.nid≤j∧j < s1.nid:=by
       rw [hfr] at hwf1
       exact hwf1.2.2.2
      exact w5 hse j (w2 j _ ho2) (hkeys j o3 hq)
    ·obtain⟨g1,g2⟩:=dropIds_get hj
     have:=front fr hfr j ob g1
     rw [hget_append] at this ⊢
     split at this
     ·exact this
     ·rw [hget_append]
      split
      ·rename_i o2 ho2
       exact absurd ho2 (fun hh=>w1 j o2 g2 hh)
      ·exact dropIds_of this g2
   ·exact front fr hfr j ob hj
 have calmE:s1.la=si.la→s1.ef=si.ef→∀ j ob,(visE (seen (listed.setIfInBounds i true)) sm.ef (visH (seen (listed.setIfInBounds i true)) sm.la s0.heap)).get j=some ob→(visE (seen listed) sm.ef (visH (seen listed) sm.la s0.heap)).get j=some ob:=by
  intro hno hns
  refine visE_mono (fun e ws hw hsm=> ?_) (calm hno)
  exact same (wrote hsm hns).1
 rcases hdOp_cases he with ⟨r,hr1,hr2,_,hr4,hr5,hr6⟩ | ⟨r,hr1,hr2,hr3,hr4,hr5,hr6⟩ | ⟨_,fr,hr1,hr4,hr6⟩ | ⟨_,hr0,v0,H',ws,hr1,_,_,htv,hr4,hr6,_⟩
 ·have hrh:r.h=offE si.ef (visO os o si.la s0.heap):=by
   rw [evEff_eq] at hr1
   split at hr1
   ·cases hr1
   ·cases hr1; rfl
   ·split at hr1
    ·cases hr1
    ·rename_i hb
     cases hr1
     rcases evAnd_some hb with ⟨r0,hb1,er⟩ | ⟨hq0,_⟩
     ·subst er; exact (evBody_quiet hb1).1
     ·cases hq0
  rw [← hr2] at hobs
  refine evEffF_sound hX ho hr1 (.inl rfl) hobs.1 hp (F:=AgL sm.la s0.nid (listed.setIfInBounds i true) ρ) (ρ:=ρ) (fun _ _=>rfl) (Cβ:=KVok sm.kv) (evHd_keys hm).1 hsub h.base h.inv (fun ρ' ha=>(hrep ρ' (hback ρ (fun _ _=>rfl) ρ' ha)).1.less (hseeE hr6)) (fun ρ' ha=>hT ρ' (hback ρ (fun _ _=>rfl) ρ' ha)) (fun h=>by cases h)
   (fun v w' hfin hk hbl=>fin ρ (fun _ _=>rfl) _ v w' (calmE hr4 hr6) (fun ρ' ha=>⟨((hrep ρ' (hback ρ (fun _ _=>rfl) ρ' ha)).1).below (hbl rfl),(hfin ρ' ha).2⟩) hk)
 ·rw [← hr2] at hobs
  let ρ1:Num:=fun j=>if j=si.nid then some w.heap.size else ρ j
  have hρ1:∀ j,¬ (si.nid≤j∧j < s1.nid)→ρ1 j=ρ j:=fun j hj=>by
   show (if j=si.nid then _ else ρ j)=_
   rw [if_neg (by omega)]
  have hnw1:∀ ρ',AgL sm.la s0.nid (listed.setIfInBounds i true) ρ1 ρ'→ρ' si.nid=some w.heap.size:=fun ρ' ha=>by
   rw [ha si.nid (.inr ⟨⟨i,si.nid,si.nid+1,r.h⟩,by rw [hex1,hr4]; simp,(lst_set hisz).2 (.inl rfl),Nat.le_refl _,Nat.lt_succ_self _⟩)]
   show (if _=_ then _ else _)=_
   rw [if_pos rfl]
  obtain⟨_,_,hall⟩:=evEff_lay hr3 hr1
  have he':=hall (visE (seen listed) sm.ef (visH (seen listed) sm.la s0.heap))
  refine evEffF_sound hX ho he' (.inr hr3) hobs.1 hp (F:=AgL sm.la s0.nid (listed.setIfInBounds i true) ρ1) (ρ:=ρ1) (fun _ _=>rfl) (Cβ:=KVok sm.kv) (evHd_keys hm).1 hsub h.base h.inv (fun ρ' ha=>(hrep ρ' (hback ρ1 hρ1 ρ' ha)).1) (fun ρ' ha=>hT ρ' (hback ρ1 hρ1 ρ' ha)) (fun _=>hnw1)
   (fun v w' hfin hk _=>fin ρ1 hρ1 (r.h++visE (seen listed) sm.ef (visH (seen listed) sm.la s0.heap)) v w' (frontE r.h (by rw [hr4,hr5]) hr6) hfin hk)
 ·have hFp:∀ ρ',AgL sm.la s0.nid listed ρ ρ'→∀ j,pVis (fun k=>memN k (reach os o)) s0.nid si.la j=true→ρ' j=ρ j:=fun ρ' ha j hj=>by
   refine ha j ?_
   rcases pVis_spec hj with h' | ⟨e,he',hk,h2⟩
   ·exact .inl h'
   ·exact .inr ⟨e,hsi_sm e he',hreach e.k hk,h2⟩
  have hpn:∀ j,pVis (fun k=>memN k (reach os o)) s0.nid si.la j=true→j < si.nid:=fun j hj=>by
   rcases pVis_spec hj with h' | ⟨e,he',_,h2⟩
   ·omega
   ·have:=(hwfi.span e he').2.2.1
    omega
  refine evLay_sound hX ho hr1 hobs.1 (F:=AgL sm.la s0.nid listed ρ) (ρ:=ρ) (fun _ _=>rfl) hFp hpn (Cβ:=KVok sm.kv) (evHd_keys hm).1 hsub h.base h.inv (fun ρ' ha=>(hrep ρ' ha).1) (hseeE hr6) hT
   (fun v w' ρn hnn hfr hfin hk=> ?_)
  let ρ2:Num:=fun j=>if si.nid≤j∧j < s1.nid then ρn j else ρ j
  have hρ2:∀ j,¬ (si.nid≤j∧j < s1.nid)→ρ2 j=ρ j:=fun j hj=>if_neg hj
  refine fin ρ2 hρ2 _ v w' (frontE fr hr4 hr6) (fun ρ' ha=>hfin ρ' (hback ρ2 hρ2 ρ' ha) (fun j h1 h2=> ?_)) hk
  rw [ha j (.inr ⟨⟨i,si.nid,s1.nid,fr⟩,by rw [hex1,hr4]; simp,(lst_set hisz).2 (.inl rfl),h1,h2⟩)]
  exact if_pos ⟨h1,h2⟩
 ·
  have hsm:sm.ef=some ⟨i,ws,pickIds H' ws⟩:=by
   rcases evHd_ef (by omega:i+1≤m) hq1 hm with e | e
   ·rw [e,hr6]
   ·rw [hr6] at e; cases e
  have hcur:visE (seen listed) sm.ef (visH (seen listed) sm.la s0.heap)=visH (seen listed) sm.la s0.heap:=by
   rw [hsm]
   simp only [visE]
   split
   ·rename_i hs; exact absurd hs hnl
   ·rfl
  obtain⟨H2,hr2,g2,g3⟩:=evE_local hr1 hsee
  obtain⟨β0,hβ0⟩:=(evHd_keys hm).1
  refine evE_sound ho hr2 hobs.1 (F:=AgL sm.la s0.nid listed ρ) (ρ:=ρ) (fun _ _=>rfl) h.base (fun ρ' ha=>hcur ▸ (hrep ρ' ha).1) (β:=β0) (fun ρ' ha=>hT ρ' ha β0 hβ0) (fun v w' bn bk hfin hk=> ?_)
  let ρ2:Num:=fun j=>if si.nid≤j∧j < s1.nid then (if j=si.nid then bn else bk) else ρ j
  have hρ2:∀ j,¬ (si.nid≤j∧j < s1.nid)→ρ2 j=ρ j:=fun j hj=>if_neg hj
  have hin:∀ ρ',AgL sm.la s0.nid (listed.setIfInBounds i true) ρ2 ρ'→∀ j,si.nid≤j→j < s1.nid→ρ' j=if j=si.nid then bn else bk:=fun ρ' ha j h1 h2=>by
   rw [ha j (.inr ⟨⟨i,si.nid,s1.nid,[]⟩,by rw [hex1,hr4]; simp,(lst_set hisz).2 (.inl rfl),h1,h2⟩)]
   exact if_pos ⟨h1,h2⟩
  refine fin ρ2 hρ2 H2 v w' (fun j ob hj=> ?_) (fun ρ' ha=> ?_) hk
  ·rw [hsm] at hj
   simp only [visE] at hj
   rw [(hSeen i).2 (.inl rfl)] at hj
   simp only at hj
   rw [hget_append] at hj
   split at hj
   ·rename_i o2 ho2
    cases hj
    obtain⟨k1,k2⟩:=pickIds_get ho2
    exact g2 j _ k2 k1
   ·obtain⟨k1,k2⟩:=dropIds_get hj
    rw [g3 j k2]
    exact front [] hr4 j ob k1
  ·obtain⟨k1,k2⟩:=hfin ρ' (hback ρ2 hρ2 ρ' ha) (fun hn=>⟨by rw [hin ρ' ha si.nid (Nat.le_refl _) (by omega),if_pos rfl],by rw [hin ρ' ha (si.nid+1) (by omega) (by omega),if_neg (by omega)]⟩)
   exact⟨k2,fun β _=>by rw [htv]; exact k1⟩
def evT (X:Cx) (os:List Oper) (m:Nat) (st:St×KV):Nat→Option (St×KV)
 | 0=>some st
 | k+1=>match evT X os m st k with
  | none=>none
  | some (s,kv)=>match nthF os (m+k) with
   | none=>none
   | some o=>evOper X false os o s kv
theorem evT_succ {X:Cx} {os:List Oper} {m:Nat} {st:St×KV} {k:Nat} {s':St} {kv':KV} (h:evT X os m st (k+1)=some (s',kv')):
  ∃ s kv o,evT X os m st k=some (s,kv)∧os[m+k]? =some o∧evOper X false os o s kv=some (s',kv'):=by
 simp only [evT,nthF_eq] at h
 split at h
 ·cases h
 ·rename_i s kv hs
  split at h
  ·cases h
  ·rename_i o ho
   exact⟨s,kv,o,hs,ho,h⟩
theorem evT_obs {X:Cx} {os:List Oper} {m:Nat} {st:St×KV} :∀ {j i:Nat} {si sj:St} {ki kj:KV},i≤j→evT X os m st i=some (si,ki)→evT X os m st j=some (sj,kj)→allP sj.obs→allP si.obs
 | 0,i,si,sj,ki,kj,hij,h1,h2,hl=>by
  obtain rfl:i=0:=by omega
  rw [h1] at h2; cases h2; exact hl
 | j+1,i,si,sj,ki,kj,hij,h1,h2,hl=>by
  by_cases e:i=j+1
  ·subst e; rw [h1] at h2; cases h2; exact hl
  ·obtain⟨s,kv,o,hs,_,ho⟩:=evT_succ h2
   exact evT_obs (by omega) h1 hs (evOper_obs ho hl)
theorem evT_some {X:Cx} {os:List Oper} {m:Nat} {st:St×KV} :∀ {j i:Nat} {r:St×KV},i≤j→evT X os m st j=some r→∃ q,evT X os m st i=some q
 | 0,i,r,hij,h=>by
  obtain rfl:i=0:=by omega
  exact⟨r,h⟩
 | j+1,i,r,hij,h=>by
  by_cases e:i=j+1
  ·subst e; exact⟨r,h⟩
  ·obtain⟨s',kv'⟩:=r
   obtain⟨s,kv,o,hs,_,_⟩:=evT_succ h
   exact evT_some (by omega) hs
theorem evT_frame {X:Cx} {os:List Oper} {m:Nat} {st:St×KV} :∀ {i:Nat} {s:St} {kv:KV},evT X os m st i=some (s,kv)→s.rd=st.1.rd∧s.mks=st.1.mks∧s.bs=st.1.bs
 | 0,s,kv,h=>by simp only [evT] at h; cases h; exact⟨rfl,rfl,rfl⟩
 | i+1,s,kv,h=>by
  obtain⟨s1,k1,o,h1,_,h2⟩:=evT_succ h
  obtain⟨e1,e2,e3⟩:=evT_frame h1
  rw [evOper_eq] at h2
  split at h2
  ·cases h2
  ·cases h2; exact⟨e1,e2,e3⟩
theorem tailT_sound {X:Cx} {J:Inv X.P} (hX:CxOk X J) {B:Nat} {M:Nat→Prop} (hp:Par X.P B M) {w0:Bas} {os:List Oper} {m:Nat} (hd:Draws os m) {st:St×KV} {sn:St} {kn:KV} (hn:evT X os m st (os.length-m)=some (sn,kn)) (hl:allP sn.obs)
  {rb:Option Nat} {Q:Exit→Act→World→Prop} (hQ:∀ a w,RepR X.P J B M w0 kn sn a w→Q .normal a w):
  ∀ (fuel t:Nat) (listed:Array Bool) (s:St) (kv:KV) (a:Act) (w:World),m≤t→t≤os.length→os.length≤t+fuel→listed.size=os.length→(∀ j,j < os.length→(Lst listed j↔j < t))→
   evT X os m st (t-m)=some (s,kv)→RepR X.P J B M w0 kv s a w→wpAnyIn (Fl rb) 0 X.P .any ⟨os⟩ Q fuel listed a w:=by
 intro fuel
 induction fuel with
 | zero=>
  intro t listed s kv a w hmt htn hf hsz hL hs hR
  obtain rfl:t=os.length:=by omega
  rw [hs] at hn
  cases hn
  refine⟨?_,hQ a w hR⟩
  cases hr:Region.ready .any ⟨os⟩ listed with
  | nil=>rfl
  | cons x xs=>
   have:x∈Region.ready .any ⟨os⟩ listed:=by rw [hr]; simp
   obtain⟨⟨h1,h2⟩,_⟩:=ready_iff.1 this
   exact absurd ((hL x (by omega)).2 (by omega)) h2
 | succ fuel ih=>
  intro t listed s kv a w hmt htn hf hsz hL hs hR
  by_cases htl:t=os.length
  ·subst htl
   rw [hs] at hn
   cases hn
   refine⟨fun _=>hQ a w hR,fun i hi=> ?_⟩
   obtain⟨⟨h1,h2⟩,_⟩:=ready_iff.1 hi
   exact absurd ((hL i (by omega)).2 (by omega)) h2
  ·have htlt:t < os.length:=by omega
   obtain⟨ot,hot⟩:∃ o,os[t]? =some o:=⟨os[t],by simp [htlt]⟩
   refine⟨fun h0=> ?_,fun i hi=> ?_⟩
   ·exfalso
    have:t∈Region.ready .any ⟨os⟩ listed:=ready_iff.2 ⟨⟨by omega,fun h=>by have:=(hL t htlt).1 h; omega⟩,ot,hot,fun e he=>by
     have:=hd.fwd t ot hot e he
     exact (hL e (by omega)).2 this⟩
    rw [h0] at this
    cases this
   ·obtain⟨⟨h1,h2⟩,o,ho,hpre⟩:=ready_iff.1 hi
    have hit:i=t:=by
     rcases Nat.lt_trichotomy i t with h | h | h
     ·exact absurd ((hL i (by omega)).2 h) h2
     ·exact h
     ·exfalso
      have:=hpre (i-1) (hd.chain i o (by omega) ho)
      have:=(hL (i-1) (by omega)).1 this
      omega
    subst hit
    obtain⟨⟨s1,k1⟩,hq1⟩:=evT_some (i:=i-m+1) (by omega) hn
    obtain⟨s',kv',o',g1,g2,g3⟩:=evT_succ hq1
    rw [hs] at g1
    cases g1
    rw [show m+(i-m)=i by omega] at g2
    exact evOper_sound hX g2 g3 (evT_obs (by omega) hq1 hn hl) hp hR (fun a' w' hR'=>ih (i+1) _ s1 k1 a' w' (by omega) (by omega) (by omega) (by simpa using hsz) (fun j hj=>by
     rw [lst_set (by omega)]
     constructor
     ·rintro (rfl | h)
      ·omega
      ·have:=(hL j hj).1 h; omega
     ·intro h
      by_cases e:j=i
      ·exact .inl e
      ·exact .inr ((hL j hj).2 (by omega))) (by rw [show i+1-m=i-m+1 by omega]; exact hq1) hR')
theorem drawL_sound {X:Cx} {J:Inv X.P} (hX:CxOk X J) {c:Bool} {B:Nat} {M:Nat→Prop} (hp:Par X.P B M) {w0:Bas} {os:List Oper} {m:Nat} (hd:Draws os m) {s0 sn:St} {kn:KV} {sm:HSt} (hlow:lowKeys s0.nid s0.heap=true)
  (hm:evHd X c os s0.nid s0.heap s0.ds s0.tmps s0.obs m=some sm) (hn:evT X os m (sm.toSt s0,sm.kv) (os.length-m)=some (sn,kn)) (hl:allP sn.obs)
  {a0:Act} {ρ:Num} (h0:∀ ρ',Agree s0.nid ρ ρ'→∀ β t,TRel ρ' β (getT s0.tmps t) (a0.tmps.getD t undef)) (hρ0:w0.n≤s0.nid∧Agree w0.n w0.ρ ρ)
  {rb:Option Nat} {Q:Exit→Act→World→Prop} (hQ:∀ a w,RepR X.P J B M w0 kn sn a w→Q .normal a w):
  ∀ (fuel:Nat) (listed:Array Bool) (a:Act) (w:World),unl listed os.length≤fuel→HalfL X J B M w0 os m s0 a0 ρ sm listed a w→wpAnyIn (Fl rb) 0 X.P .any ⟨os⟩ Q fuel listed a w:=by
 have hlm:allP sm.obs:=evT_obs (X:=X) (os:=os) (m:=m) (Nat.zero_le _) rfl hn hl
 have ht0:evT X os m (sm.toSt s0,sm.kv) (m-m)=some (sm.toSt s0,sm.kv):=by rw [Nat.sub_self]; rfl
 intro fuel
 induction fuel with
 | zero=>
  intro listed a w hf h
  have hall:∀ k,k < os.length→Lst listed k:=fun k hk=>unl_zero (by omega) hk
  have hmn:m=os.length:=by
   rcases Nat.lt_or_ge m os.length with hlt | hge
   ·exact absurd (hall m hlt) (h.late m (Nat.le_refl _))
   ·have:=hd.le; omega
  subst hmn
  exact tailT_sound hX hp hd hn hl hQ 0 os.length listed _ sm.kv a w (Nat.le_refl _) (Nat.le_refl _) (by omega) h.size (fun j hj=>⟨fun _=>hj,fun _=>hall j hj⟩) ht0 (halfL_all hm hlow h0 h hρ0 (fun k hk=>hall k hk))
 | succ fuel ih=>
  intro listed a w hf h
  by_cases hall:∀ k,k < m→Lst listed k
  ·refine tailT_sound hX hp hd hn hl hQ (fuel+1) m listed _ sm.kv a w (Nat.le_refl _) hd.le ?_ h.size (fun j hj=>⟨fun hlj=> ?_,fun hj'=>hall j hj'⟩) ht0 (halfL_all hm hlow h0 h hρ0 hall)
   ·have hc:(List.range os.length).countP (fun i=> !Nat.blt i m)≤unl listed os.length:=by
     refine List.countP_mono_left (fun z _ hz=> ?_)
     simp only [Bool.not_eq_true'] at hz ⊢
     cases hzl:listed.getD z false
     ·rfl
     ·exfalso
      refine h.late z ?_ hzl
      rcases Nat.lt_or_ge z m with h' | h'
      ·rw [show Nat.blt z m=true by simp [Nat.blt_eq]; exact h'] at hz; cases hz
      ·exact h'
    have hc2:∀ n,(List.range n).countP (fun i=> !Nat.blt i m)=n-m:=by
     intro n
     induction n with
     | zero=>simp
     | succ n ihn=>
      rw [List.range_succ,List.countP_append,ihn]
      simp only [List.countP_cons,List.countP_nil,Nat.zero_add,Bool.not_eq_true']
      by_cases hnm:n < m
      ·rw [if_neg (by rw [show Nat.blt n m=true by simp [Nat.blt_eq]; exact hnm]; simp)]; omega
      ·rw [if_pos (by cases hb:Nat.blt n m; rfl; exact absurd (by simpa [Nat.blt_eq] using hb) hnm)]; omega
    rw [hc2] at hc
    omega
   ·rcases Nat.lt_or_ge j m with h' | h'
    ·exact h'
    ·exact absurd hlj (h.late j h')
  ·have hex:∃ k,k < m∧¬ Lst listed k:=by
    rcases Classical.em (∃ k,k < m∧¬ Lst listed k) with h' | h'
    ·exact h'
    ·exact absurd (fun k hk=>Classical.byContradiction fun hn=>h' ⟨k,hk,hn⟩) hall
   refine⟨fun hr0=> ?_,fun i hi=> ?_⟩
   ·exfalso
    haveI:DecidablePred fun k=>¬ Lst listed k:=fun k=>Classical.propDecidable _
    obtain⟨k,hk,hnl,hmin⟩:=least m hex
    obtain⟨o,ho⟩:∃ o,os[k]? =some o:=⟨os[k]'(by have:=hd.le; omega),by have:=hd.le; simp [show k < os.length by omega]⟩
    have:k∈Region.ready .any ⟨os⟩ listed:=ready_iff.2 ⟨⟨by rw [h.size]; have:=hd.le; omega,hnl⟩,o,ho,fun e he=>Classical.byContradiction fun hn=>hmin e (hd.fwd k o ho e he) hn⟩
    rw [hr0] at this
    cases this
   ·obtain⟨⟨h1,h2⟩,o,ho,hpre⟩:=ready_iff.1 hi
    have hin:i < os.length:=by rw [← h.size]; exact h1
    have him:i < m:=by
     rcases Nat.lt_trichotomy i m with h' | h' | h'
     ·exact h'
     ·subst h'
      obtain⟨k,hk,hnk⟩:=hex
      exact absurd (sink_reach hd hin h.closed ho hpre (i-k) k (Nat.le_refl _) hk) hnk
     ·exact absurd (hpre (i-1) (hd.chain i o h' ho)) (h.late (i-1) (by omega))
    refine halfL_step hX hp hd hm hlow hlm h0 h him hi (fun a' w' h'=>ih _ a' w' ?_ h')
    have:=unl_set hin h.size h2
    omega
def anyLay:Nat→List Oper→Bool
 | 0,_=>false
 | _,[] =>false
 | m+1,o ::r=>layOp o.op || anyLay m r
def evLaid (X:Cx) (os:List Oper) (m:Nat) (s:St):Option St:=
 match s with
 | ⟨tm,hp,nid,ds,obs,lp,rd,mk,bs⟩=>match lowKeys nid hp with
  | false=>none
  | true=>match evHd X true os nid hp ds tm obs m with
   | none=>none
   | some ⟨tm',la,ob,kv,nid',ef⟩=>match evT X os m (⟨tm',visE (fun _=>true) ef (visH (fun _=>true) la hp),nid',ds,ob,lp,rd,mk,bs⟩,kv) (os.length-m) with
    | none=>none
    | some (s',_)=>some s'
theorem evLaid_some {X:Cx} {os:List Oper} {m:Nat} {s s':St} (h:evLaid X os m s=some s'):
  lowKeys s.nid s.heap=true∧∃ hm kn,evHd X true os s.nid s.heap s.ds s.tmps s.obs m=some hm∧evT X os m (hm.toSt s,hm.kv) (os.length-m)=some (s',kn):=by
 unfold evLaid at h
 dsimp only at h
 split at h
 ·cases h
 ·rename_i hlow
  split at h
  ·cases h
  ·rename_i he
   split at h
   ·cases h
   ·rename_i kn ht
    cases h
    exact⟨hlow,_,_,he,ht⟩
end
end Go.Proofs.YtdgfhijnconaoaaGreatDoor.Ev
namespace Go.Proofs.YtdgfhijnconaoaaGreatDoor.Ev
open Go Go.RowKit Go.Shelf
noncomputable section
def storeT (o:Oper):Option Nat:=
 match o.dst,o.guard with
 | none,none=>match o.op with
  | .store _ (.tmp d) _=>some d
  | _=>none
 | _,_=>none
def storedIn (tm:List TV):List Oper→Option (List Nat)
 | [] =>some []
 | o ::r=>match storeT o with
  | none=>none
  | some d=>match getT tm d with
   | .v (.pointer (some ⟨id,_,_⟩))=>match storedIn tm r with
    | some l=>some (id ::l)
    | none=>none
   | _=>none
def slotAcc (acc:List Nat) (t:Nat):Nat→List Oper→Bool
 | _,[] =>true
 | k,o ::r=>(match o.dst with
  | some d=> !(Nat.beq d t) || memN k acc
  | none=>true) && slotAcc acc t (k+1) r
theorem slotAcc_spec {acc:List Nat} {t:Nat} :∀ {r:List Oper} {k0:Nat},slotAcc acc t k0 r=true→∀ k o,r[k]? =some o→o.dst=some t→(k0+k)∈acc
 | [],k0,_,k,o,ho,_=>by simp at ho
 | x ::r,k0,h,k,o,ho,hd=>by
  simp only [slotAcc,Bool.and_eq_true] at h
  cases k with
  | zero=>
   simp only [List.getElem?_cons_zero,Option.some.injEq] at ho
   subst ho
   rw [hd] at h
   simp only [Nat.beq_refl,Bool.not_true,Bool.false_or,memN_iff] at h
   exact h.1
  | succ k=>
   simp only [List.getElem?_cons_succ] at ho
   have:=slotAcc_spec h.2 k o ho hd
   rw [show k0+(k+1)=k0+1+k by omega]
   exact this
def slotsAcc (hd:List Oper) (acc:List Nat):List Nat→Bool
 | [] =>true
 | t ::r=>slotAcc acc t 0 hd && slotsAcc hd acc r
theorem slotsAcc_spec {hd:List Oper} {acc:List Nat} :∀ {l:List Nat},slotsAcc hd acc l=true→∀ t∈l,slotAcc acc t 0 hd=true
 | [],_,t,ht=>by cases ht
 | x ::r,h,t,ht=>by
  simp only [slotsAcc,Bool.and_eq_true] at h
  rcases List.mem_cons.1 ht with rfl | ht
  ·exact h.1
  ·exact slotsAcc_spec h.2 t ht
def tailLooks (os hd:List Oper):List Nat→List Oper→Bool
 | _,[] =>true
 | acc,o ::r=>slotsAcc hd (predsOf o++acc) (looks os o) && tailLooks os hd (predsOf o++acc) r
theorem tailLooks_spec {os hd:List Oper} {L:Nat→Prop} :∀ {r:List Oper} {acc:List Nat},tailLooks os hd acc r=true→(∀ e∈acc,L e)→∀ (k:Nat) (o:Oper),r[k]? =some o→(∀ (j:Nat) (oj:Oper),j≤k→r[j]? =some oj→∀ e∈predsOf oj,L e)→
  ∀ t∈looks os o,∀ (i:Nat) (oi:Oper),hd[i]? =some oi→oi.dst=some t→L i
 | [],acc,_,_,k,o,ho,_=>by simp at ho
 | x ::r,acc,h,ha,k,o,ho,hp=>by
  simp only [tailLooks,Bool.and_eq_true] at h
  have hacc:∀ e∈predsOf x++acc,L e:=fun e he=>by
   rcases List.mem_append.1 he with he | he
   ·exact hp 0 x (Nat.zero_le _) rfl e he
   ·exact ha e he
  cases k with
  | zero=>
   simp only [List.getElem?_cons_zero,Option.some.injEq] at ho
   subst ho
   intro t ht i oi hi hd'
   have:=slotAcc_spec (slotsAcc_spec h.1 t ht) i oi hi hd'
   rw [Nat.zero_add] at this
   exact hacc i this
  | succ k=>
   simp only [List.getElem?_cons_succ] at ho
   exact tailLooks_spec h.2 hacc k o ho (fun j oj hj hoj=>hp (j+1) oj (by omega) (by simpa using hoj))
def headLen:List Oper→Nat
 | [] =>0
 | o ::r=>match storeT o with
  | some _=>0
  | none=>headLen r+1
def floatOk (os:List Oper) (m:Nat):Bool:=
 Nat.ble m os.length && fwdFrom 0 os && noDup (os.take m) && looksOk os (os.take m) 0 (os.take m) && tailLooks os (os.take m) [] (os.drop m) && chainFrom (m+1) (os.drop (m+1)) && !(anyLay m os)
structure Floats (os:List Oper) (m:Nat):Prop where
 le:m≤os.length
 fwd:∀ i o,os[i]? =some o→∀ e∈predsOf o,e < i
 dup:∀ i k oi ok d,i < m→k < m→os[i]? =some oi→os[k]? =some ok→oi.dst=some d→ok.dst=some d→i=k
 slot:∀ i o,i < m→os[i]? =some o→∀ t∈looks os o,∀ k ok,k < m→os[k]? =some ok→ok.dst=some t→k=i∨k∈predsOf o∨i∈predsOf ok
 tail:∀ (L:Nat→Prop) t o,m≤t→os[t]? =some o→(∀ j oj,m≤j→j≤t→os[j]? =some oj→∀ e∈predsOf oj,L e)→∀ x∈looks os o,∀ k ok,k < m→os[k]? =some ok→ok.dst=some x→L k
 chain:∀ t o,m < t→os[t]? =some o→(t-1)∈predsOf o
 quiet:∀ i o,i < m→os[i]? =some o→layOp o.op=false
theorem anyLay_spec:∀ {m:Nat} {os:List Oper},anyLay m os=false→∀ i o,i < m→os[i]? =some o→layOp o.op=false
 | 0,_,_,i,o,hi,_=>by omega
 | m+1,[],_,i,o,_,ho=>by simp at ho
 | m+1,x ::r,h,i,o,hi,ho=>by
  simp only [anyLay,Bool.or_eq_false_iff] at h
  cases i with
  | zero=>simp only [List.getElem?_cons_zero,Option.some.injEq] at ho; subst ho; exact h.1
  | succ i=>simp only [List.getElem?_cons_succ] at ho; exact anyLay_spec h.2 i o (by omega) ho
theorem floatOk_spec {os:List Oper} {m:Nat} (h:floatOk os m=true):Floats os m:=by
 simp only [floatOk,Bool.and_eq_true,Bool.not_eq_true',Nat.ble_eq] at h
 obtain⟨⟨⟨⟨⟨⟨h1,h2⟩,h3⟩,h4⟩,h5⟩,h6⟩,h7⟩:=h
 have fwd:∀ i o,os[i]? =some o→∀ e∈predsOf o,e < i:=fun i o ho e he=>by
  have:=fwdFrom_spec h2 i o ho e he
  omega
 refine⟨h1,fwd,fun i k oi ok d hi hk hoi hok di dk=> ?_,fun i o hi ho t ht k ok hk hok hd=> ?_,fun L t o hmt ho hp x hx k ok hk hok hd=> ?_,fun t o ht ho=> ?_,anyLay_spec h7⟩
 ·exact noDup_spec h3 i k oi ok d ((take_get hi).trans hoi) ((take_get hk).trans hok) di dk
 ·have:=looksOk_spec h4 i o ((take_get hi).trans ho) t ht k ok ((take_get hk).trans hok) hd
  simpa using this
 ·refine tailLooks_spec (L:=L) h5 (fun e he=>by cases he) (t-m) o (by rw [List.getElem?_drop,show m+(t-m)=t by omega]; exact ho) (fun j oj hj hoj=> ?_) x hx k ok ((take_get hk).trans hok) hd
  rw [List.getElem?_drop] at hoj
  exact hp (m+j) oj (by omega) (by omega) hoj
 ·have:=chainFrom_spec h6 (t- (m+1)) o (by rw [List.getElem?_drop,show m+1+(t- (m+1))=t by omega]; exact ho)
  rw [show m+1+(t- (m+1))-1=t-1 by omega] at this
  exact this
theorem storedIn_spec {tm:List TV} :∀ {r:List Oper} {ws:List Nat},storedIn tm r=some ws→∀ (k:Nat) (o:Oper),r[k]? =some o→∃ d id off sp,storeT o=some d∧getT tm d= .v (.pointer (some ⟨id,off,sp⟩))∧memN id ws=true
 | [],ws,_,k,o,ho=>by simp at ho
 | x ::r,ws,h,k,o,ho=>by
  simp only [storedIn] at h
  split at h
  ·cases h
  rename_i d hd
  split at h
  ·rename_i id off sp hg
   split at h
   ·rename_i l hl
    cases h
    cases k with
    | zero=>
     simp only [List.getElem?_cons_zero,Option.some.injEq] at ho
     subst ho
     exact⟨d,id,off,sp,hd,hg,by simp [memN]⟩
    | succ k=>
     simp only [List.getElem?_cons_succ] at ho
     obtain⟨d',id',off',sp',h1,h2,h3⟩:=storedIn_spec hl k o ho
     exact⟨d',id',off',sp',h1,h2,by simp [memN,h3]⟩
   ·cases h
  ·cases h
theorem storeT_some {o:Oper} {d:Nat} (h:storeT o=some d):o.dst=none∧o.guard=none∧∃ t y,o.op= .store t (.tmp d) y:=by
 unfold storeT at h
 split at h
 ·rename_i h1 h2
  split at h
  ·rename_i t d' y ho
   cases h
   exact⟨h1,h2,t,y,ho⟩
  ·cases h
 ·cases h
theorem evStore_other {P:Program} {H H':Heap} {t:TypeId} {v:Value} {id off:Nat} {sp:Option Nat} (h:evStore P H t (.pointer (some ⟨id,off,sp⟩)) v=some H') (j:Nat) (hj:j≠id):H'.get j=H.get j:=by
 unfold evStore at h
 simp only [infF_eq] at h
 split at h
 case h_2=>cases h
 rename_i heq
 cases heq
 split at h
 case h_1=>cases h
 split at h
 case h_4=>cases h
 ·rename_i hget
  split at h
  case h_2=>cases h
  cases h
  rw [Heap.get_set _ _ _ _ hget,if_neg (fun e=>hj e.symm)]
 ·rename_i hget
  split at h
  case h_2=>cases h
  cases h
  rw [Heap.get_set _ _ _ _ hget,if_neg (fun e=>hj e.symm)]
 ·rename_i hget
  split at h
  case h_2=>cases h
  split at h
  case h_2=>cases h
  cases h
  rw [Heap.get_set _ _ _ _ hget,if_neg (fun e=>hj e.symm)]
theorem evStoreI_other {P:Program} {auto:Bool} {H H':Heap} {t:TypeId} {v:Value} {id off:Nat} {sp:Option Nat} {l:List Prop} (h:evStoreI P auto H t (.pointer (some ⟨id,off,sp⟩)) v=some (H',l)) (j:Nat) (hj:j≠id):H'.get j=H.get j:=by
 unfold evStoreI at h
 simp only [infF_eq] at h
 split at h
 ·cases h
 split at h
 case h_2=>cases h
 rename_i heq
 cases heq
 split at h
 case h_2=>cases h
 rename_i hget
 split at h
 case h_2=>cases h
 split at h
 case h_2=>cases h
 cases h
 rw [Heap.get_set _ _ _ _ hget,if_neg (fun e=>hj e.symm)]
theorem evOper_store {X:Cx} {os:List Oper} {o:Oper} {s s':St} {kv kv':KV} {d id off:Nat} {sp:Option Nat} (hd:storeT o=some d) (hg:getT s.tmps d= .v (.pointer (some ⟨id,off,sp⟩))) (h:evOper X false os o s kv=some (s',kv')):
  s'.tmps=s.tmps∧kv'=kv∧∀ j,j≠id→s'.heap.get j=s.heap.get j:=by
 obtain⟨h1,h2,t,y,ho⟩:=storeT_some hd
 rw [evOper_eq,evEff_eq] at h
 have hgu:evGuard X.gd os o s.tmps kv=some (false,s.tmps,kv,[]):=by unfold evGuard; rw [h2]
 rw [hgu] at h
 simp only at h
 split at h
 ·cases h
 rename_i tmps' kv1 tv r he
 cases h
 split at he
 ·cases he
 rename_i r0' hand
 cases he
 rcases evAnd_some hand with ⟨r0,hb,er⟩ | ⟨_,hc,_⟩
 case inr=>cases hc
 subst er
 refine⟨by show setT s.tmps o.dst _=_; rw [h1]; rfl,rfl,fun j hj=> ?_⟩
 show r0.h.get j=_
 unfold evBody at hb
 split at hb
 ·cases hb
 rw [ho] at hb
 simp only [s2b] at hb
 split at hb
 case h_2=>cases hb
 rename_i r1 hr1
 have hr0:r0.h=r1.h:=by
  simp only [hasC,Bool.or_false] at hb
  cases hb
  rfl
 rw [hr0]
 unfold evOp at hr1
 simp only [undF_eq] at hr1
 rw [ho] at hr1
 simp only at hr1
 split at hr1
 ·rename_i a v ha hv
  have:a= .pointer (some ⟨id,off,sp⟩):=by
   simp only [evo,hg,rd] at ha
   cases ha
   rfl
  subst this
  split at hr1
  ·rename_i H' l hst
   cases hr1
   exact evStoreI_other hst j hj
  split at hr1
  ·rename_i H' hst
   cases hr1
   exact evStore_other hst j hj
  ·cases hr1
 ·cases hr1
theorem evT_stores {X:Cx} {os:List Oper} {m:Nat} {s0:St} {kv0:KV} {ws:List Nat} (hst:∀ k o,os[m+k]? =some o→∃ d id off sp,storeT o=some d∧getT s0.tmps d= .v (.pointer (some ⟨id,off,sp⟩))∧memN id ws=true):
  ∀ {k:Nat} {s:St} {kv:KV},evT X os m (s0,kv0) k=some (s,kv)→s.tmps=s0.tmps∧kv=kv0∧(∀ j,memN j ws=false→s.heap.get j=s0.heap.get j)∧s0.nid≤s.nid
 | 0,s,kv,h=>by simp only [evT] at h; cases h; exact⟨rfl,rfl,fun _ _=>rfl,Nat.le_refl _⟩
 | k+1,s,kv,h=>by
  obtain⟨s1,k1,o,h1,ho,h2⟩:=evT_succ h
  obtain⟨e1,e2,e3,e4⟩:=evT_stores hst h1
  obtain⟨d,id,off,sp,g1,g2,g3⟩:=hst k o ho
  obtain⟨f1,f2,f3⟩:=evOper_store g1 (by rw [e1]; exact g2) h2
  refine⟨f1.trans e1,f2.trans e2,fun j hj=>(f3 j (fun e=>by rw [e,g3] at hj; cases hj)).trans (e3 j hj),Nat.le_trans e4 ?_⟩
  obtain⟨_,_,t,y,hop⟩:=storeT_some g1
  rw [evOper_eq,evEff_eq] at h2
  split at h2
  ·cases h2
  rename_i he
  cases h2
  split at he
  ·cases he
  ·cases he; exact Nat.le_refl _
  ·split at he
   ·cases he
   ·rename_i hand
    cases he
    rename_i r1 _ _ _ _
    have:∃ q' r0 cs ts,evBody X q' o cs ts s1.heap s1.nid s1.ds=some r0∧r1.n=r0.n:=by
     rcases evAnd_some hand with ⟨r0,hb,er⟩ | ⟨_,_,_,r0,hb,er⟩
     ·exact⟨_,r0,_,_,hb,by rw [er]⟩
     ·exact⟨_,r0,_,_,hb,by rw [er]⟩
    obtain⟨q',r0,cs,ts,hb,e0⟩:=this
    show s1.nid≤r1.n
    rw [e0]
    unfold evBody at hb
    split at hb
    ·cases hb
    rw [hop] at hb
    simp only [s2b] at hb
    split at hb
    case h_2=>cases hb
    split at hb
    ·cases hb; exact Nat.le_refl _
    ·split at hb
     ·cases hb; exact Nat.le_succ _
     ·cases hb
structure HalfF (X:Cx) (J:Inv X.P) (B:Nat) (M:Nat→Prop) (w0:Bas) (os:List Oper) (m t:Nat) (s0:St) (a0:Act) (ρ0:Num) (sm:HSt) (st:St) (listed:Array Bool) (a:Act) (w:World):Prop where
 size:listed.size=os.length
 closed:∀ j o,os[j]? =some o→Lst listed j→∀ e∈predsOf o,Lst listed e
 mt:m≤t
 tn:t≤os.length
 tl:∀ j,m≤j→j < os.length→(Lst listed j↔j < t)
 asize:a.tmps.size=s0.tmps.length
 defers:a.defers=w0.dfs
 base:B≤w.heap.size
 inv:J.I w
 keeps:Keeps B M w0.w w
 old:∀ d,(∀ k o,k < m→Lst listed k→os[k]? =some o→o.dst≠some d)→a.tmps.getD d undef=a0.tmps.getD d undef
 rep:∃ ρ,Agree s0.nid ρ0 ρ∧∀ ρ',Agree st.nid ρ ρ'→Sim X.P B M ρ' st.heap w∧
  ∀ k o d,k < m→Lst listed k→os[k]? =some o→o.dst=some d→∀ β,KVok sm.kv β→TRel ρ' β (getT sm.tm d) (a.tmps.getD d undef)
def HSt.toF (h:HSt) (s:St):St:=⟨h.tm,s.heap,s.nid,s.ds,h.obs,s.lp,s.rd,s.mks,s.bs⟩
section
variable {X:Cx} {J:Inv X.P} (hX:CxOk X J) {B:Nat} {M:Nat→Prop} (hp:Par X.P B M) {w0:Bas} {os:List Oper} {m:Nat} (hd:Floats os m) {s0:St} {a0:Act} {ρ0:Num} {sm:HSt} {nb:Nat} {ws:List Nat}
 (hm:evHd X false os nb (dropIds ws s0.heap) s0.ds s0.tmps s0.obs m=some sm) (hst:∀ k o,os[m+k]? =some o→∃ d id off sp,storeT o=some d∧getT sm.tm d= .v (.pointer (some ⟨id,off,sp⟩))∧memN id ws=true)
 (h0:∀ ρ',Agree s0.nid ρ0 ρ'→∀ β t,TRel ρ' β (getT s0.tmps t) (a0.tmps.getD t undef))
include hX hp hd hm hst h0 in
theorem halfF_head (hl:allP sm.obs) {t:Nat} {st:St} {kt:KV} (ht:evT X os m (sm.toF s0,sm.kv) (t-m)=some (st,kt)) {listed:Array Bool} {a:Act} {w:World} (h:HalfF X J B M w0 os m t s0 a0 ρ0 sm st listed a w) {i:Nat} (him:i < m) (hr:i∈Region.ready .any ⟨os⟩ listed)
  {rb:Option Nat} {K:Act→World→Prop} {Q:Exit→Act→World→Prop} (hK:∀ a' w',HalfF X J B M w0 os m t s0 a0 ρ0 sm st (listed.setIfInBounds i true) a' w'→K a' w'):wpOpIn (Fl rb) 0 X.P ⟨os⟩ Q i K a w:=by
 obtain⟨⟨hi,hnl⟩,o,ho,hpre⟩:=ready_iff.1 hr
 obtain⟨s1,hq1⟩:=evHd_some (i:=i+1) (by omega) hm
 obtain⟨si,o',tmps',tv,ob',hsi,ho',hop,e1,e3⟩:=evHd_succ hq1
 rw [ho] at ho'
 cases ho'
 have hobs:=evHd_obs (by omega) hq1 hm hl
 rw [e3] at hobs
 simp only [allP_append] at hobs
 obtain⟨_,elen⟩:=evHd_keys hsi
 have hsub:∀ β,KVok sm.kv β→KVok s1.kv β:=fun β hβ=>evHd_sub (by omega) hq1 hm hβ
 have hsubi:∀ β,KVok sm.kv β→KVok si.kv β:=fun β hβ=>evHd_sub (by omega) hsi hm hβ
 obtain⟨f1,f2,f3,f4⟩:=evT_stores (s0:=sm.toF s0) (ws:=ws) hst ht
 have f4:s0.nid≤st.nid:=f4
 obtain⟨ρ,hρ0,hrep⟩:=h.rep
 have hisz:i < listed.size:=hi
 rcases hdOp_cases hop with ⟨r,he,hr2,_,q4,_⟩ | ⟨r,_,_,q2,_⟩ | ⟨hc,_⟩ | ⟨hc,_⟩
 case inr.inl=>rw [hd.quiet i o him ho] at q2; cases q2
 case inr.inr.inl=>cases hc
 case inr.inr.inr=>cases hc
 rw [← hr2] at hobs
 have hla:si.la=[] :=by
  have key:∀ (n:Nat) (s:HSt),n≤m→evHd X false os nb (dropIds ws s0.heap) s0.ds s0.tmps s0.obs n=some s→s.la=[] :=by
   intro n
   induction n with
   | zero=>intro s _ hs; simp only [evHd] at hs; cases hs; rfl
   | succ n ih=>
    intro s hn hs
    obtain⟨s2,o2,_,_,_,g1,g2,g5,_⟩:=evHd_succ hs
    rcases hdOp_cases g5 with ⟨_,_,_,_,g3,_⟩ | ⟨_,_,_,g4,_⟩ | ⟨hc,_⟩ | ⟨hc,_⟩
    ·rw [g3]; exact ih s2 (by omega) g1
    ·rw [hd.quiet n o2 (by omega) g2] at g4; cases g4
    ·cases hc
    ·cases hc
  exact key i si (by omega) hsi
 generalize hHdef:offE si.ef (visO os o si.la (dropIds ws s0.heap))=H at he
 have hH:∀ j ob,H.get j=some ob→(dropIds ws s0.heap).get j=some ob:=by
  intro j ob hj
  rw [← hHdef,hla,evHd_quiet hsi] at hj
  exact visO_get (la:=[]) hj
 have hrh:r.h=H:=by
  rw [evEff_eq] at he
  split at he
  ·cases he
  ·cases he; rfl
  ·split at he
   ·cases he
   ·rename_i hb
    cases he
    rcases evAnd_some hb with ⟨r0,hb1,er⟩ | ⟨hq0,_⟩
    ·subst er; exact (evBody_quiet hb1).1
    ·cases hq0
 have hT:∀ ρ',Agree st.nid ρ ρ'→∀ β,KVok sm.kv β→∀ x∈looks os o,TRel ρ' β (getT si.tm x) (a.tmps.getD x undef):=by
  intro ρ' ha β hβ x hx
  by_cases hw:∃ k ok,k < m∧Lst listed k∧os[k]? =some ok∧ok.dst=some x
  ·obtain⟨k,ok,hk,hlk,hok,hdk⟩:=hw
   have hki:k < i:=by
    rcases hd.slot i o him ho x hx k ok hk hok hdk with e | e | e
    ·subst e; exact absurd hlk hnl
    ·exact hd.fwd i o ho k e
    ·exact absurd (h.closed k ok hok hlk i e) hnl
   have:=(hrep ρ' ha).2 k ok x hk hlk hok hdk β hβ
   refine (evHd_slot (by omega:i≤m) hsi hm hβ (fun k2 o2 hk1 hk2 ho2 hd2=> ?_)).2 this
   have:=hd.dup k k2 ok o2 x hk hk2 hok ho2 hdk hd2
   omega
  ·have hno:∀ k ok,k < m→Lst listed k→os[k]? =some ok→ok.dst≠some x:=fun k ok hk hlk hok e=>hw ⟨k,ok,hk,hlk,hok,e⟩
   rw [h.old x hno]
   refine (evHd_slot (Nat.zero_le i) rfl hsi (hsubi β hβ) (fun k ok _ hk hok hdk=> ?_)).1 (h0 ρ' (fun j hj=> ?_) β x)
   ·rcases hd.slot i o him ho x hx k ok (by omega) hok hdk with e | e | e
    ·omega
    ·exact hno k ok (by omega) (hpre k e) hok hdk
    ·have:=hd.fwd k ok hok i e
     omega
   ·rw [ha j (by omega)]; exact hρ0 j hj
 refine evEffF_sound hX ho he (.inl rfl) hobs.1 hp (F:=fun ρ'=>Agree st.nid ρ ρ') (ρ:=ρ) (Agree.refl _ _) (Cβ:=KVok sm.kv) (evHd_keys hm).1 hsub h.base h.inv (fun ρ' ha=> ?_) hT (fun hh=>by cases hh) (fun v w' hfin hk hbl=>hK _ _ ?_)
 ·refine (hrep ρ' ha).1.less fun j ob hj=> ?_
  obtain⟨g1,g2⟩:=dropIds_get (hH j ob hj)
  rw [f3 j g2]
  exact g1
 refine⟨by simpa using h.size,fun j oj hoj hlj e he'=> ?_,h.mt,h.tn,fun j hj hjn=> ?_,by rw [put_size]; exact h.asize,by rw [put_defers]; exact h.defers,Nat.le_trans h.base hk.size,J.keeps hp hk h.inv,h.keeps.trans hk,fun d hno=> ?_,
  ρ,hρ0,fun ρ' ha=>⟨(hrep ρ' ha).1.below (hbl rfl),fun k ok d hkm hlk hok hdk β hβ=> ?_⟩⟩
 ·rw [lst_set hisz] at hlj ⊢
  rcases hlj with rfl | hlj
  ·rw [ho] at hoj; cases hoj
   exact .inr (hpre e he')
  ·exact .inr (h.closed j oj hoj hlj e he')
 ·rw [lst_set hisz,← h.tl j hj hjn]
  exact⟨fun e=>e.elim (fun e=>by omega) id, .inr⟩
 ·rw [put_getD,if_neg (fun hh=>hno i o him ((lst_set hisz).2 (.inl rfl)) ho hh.1)]
  exact h.old d (fun k ok hkm hlk hok=>hno k ok hkm ((lst_set hisz).2 (.inr hlk)) hok)
 ·rw [put_getD]
  by_cases hki:k=i
  ·subst hki
   rw [ho] at hok
   cases hok
   by_cases hds:d < a.tmps.size
   ·rw [if_pos ⟨hdk,hds⟩]
    have hslot:=evHd_slot (X:=X) (os:=os) (ρ:=ρ') (β:=β) (t:=d) (r:=v) (by omega:k+1≤m) hq1 hm hβ (fun k2 o2 hk1 hk2 ho2 hd2=>by
     have:=hd.dup k k2 o o2 d hkm hk2 ho ho2 hdk hd2
     omega)
    rw [← hslot,e1]
    obtain⟨_,_,hl'⟩:=evEff_ex he (evHd_keys hsi).1
    rw [setT_getT,if_pos ⟨hdk,by rw [hl',elen,← h.asize]; exact hds⟩]
    exact (hfin ρ' ha).2 β hβ
   ·have hnone:getT sm.tm d= .unk:=by
     simp only [getT_def]
     have e7:sm.tm.length=s0.tmps.length:=(evHd_keys hm).2
     have e8:a.tmps.size=s0.tmps.length:=h.asize
     have e9:a.tmps.size≤d:=Nat.le_of_not_lt hds
     rw [List.getElem?_eq_none (by omega)]
    rw [hnone]
    trivial
  ·have hlk':Lst listed k:=by
    rcases (lst_set hisz).1 hlk with e | e
    ·exact absurd e hki
    ·exact e
   have hne:o.dst≠some d:=fun e=>hki (hd.dup k i ok o d hkm him hok ho hdk e)
   rw [if_neg (fun hh=>hne hh.1)]
   exact (hrep ρ' ha).2 k ok d hkm hlk' hok hdk β hβ
include hX hp hd hm hst h0 in
theorem halfF_tail {t:Nat} {st st':St} {kt kt':KV} (ht:evT X os m (sm.toF s0,sm.kv) (t-m)=some (st,kt)) {o:Oper} (ho:os[t]? =some o) (hop:evOper X false os o st kt=some (st',kt')) (hl:allP st'.obs)
  {listed:Array Bool} {a:Act} {w:World} (h:HalfF X J B M w0 os m t s0 a0 ρ0 sm st listed a w) (hpre:∀ e∈predsOf o,Lst listed e) (htn:t < os.length)
  {rb:Option Nat} {K:Act→World→Prop} {Q:Exit→Act→World→Prop} (hK:∀ a' w',HalfF X J B M w0 os m (t+1) s0 a0 ρ0 sm st' (listed.setIfInBounds t true) a' w'→K a' w'):wpOpIn (Fl rb) 0 X.P ⟨os⟩ Q t K a w:=by
 obtain⟨f1,f2,f3,f4⟩:=evT_stores (s0:=sm.toF s0) (ws:=ws) hst ht
 have f4:s0.nid≤st.nid:=f4
 have f1:st.tmps=sm.tm:=f1
 have f2:kt=sm.kv:=f2
 subst f2
 obtain⟨d0,id,off,sp,g1,g2,g3⟩:=hst (t-m) o (by rw [show m+(t-m)=t by have:=h.mt; omega]; exact ho)
 obtain⟨z1,z2,z3⟩:=evOper_store g1 (by rw [f1]; exact g2) hop
 obtain⟨y1,y2,_⟩:=storeT_some g1
 obtain⟨ρ,hρ0,hrep⟩:=h.rep
 rw [evOper_eq] at hop
 split at hop
 ·cases hop
 rename_i tmps' kv1 tv r he
 cases hop
 simp only [allP_append] at hl
 have hlt:t < listed.size:=by rw [h.size]; exact htn
 subst z2
 refine evEff_sound hX ho he hl.1 hp (ρ:=ρ) (Cβ:=KVok sm.kv) (evHd_keys hm).1 (fun _ hh=>hh) h.base h.inv (fun ρ' ha=>(hrep ρ' ha).1) (fun ρ' ha β hβ x hx=> ?_) (fun v w' ρ1 ha hn hfin hk _=>hK _ _ ?_)
 ·rw [f1]
  by_cases hw:∃ k ok,k < m∧Lst listed k∧os[k]? =some ok∧ok.dst=some x
  ·obtain⟨k,ok,hk,hlk,hok,hdk⟩:=hw
   exact (hrep ρ' ha).2 k ok x hk hlk hok hdk β hβ
  ·have hno:∀ k ok,k < m→os[k]? =some ok→ok.dst≠some x:=fun k ok hk hok e=>by
    refine hw ⟨k,ok,hk,hd.tail (Lst listed) t o h.mt ho (fun j oj hmj hjt hoj e' he'=> ?_) x hx k ok hk hok e,hok,e⟩
    by_cases ejt:j=t
    ·subst ejt
     rw [ho] at hoj
     cases hoj
     exact hpre e' he'
    ·exact h.closed j oj hoj ((h.tl j hmj (by omega)).2 (by omega)) e' he'
   rw [h.old x (fun k ok hk _ hok=>hno k ok hk hok)]
   exact (evHd_slot (Nat.zero_le m) rfl hm hβ (fun k ok _ hk hok=>hno k ok hk hok)).1 (h0 ρ' (fun j hj=>by rw [ha j (by omega)]; exact hρ0 j hj) β x)
 ·have hput:∀ x,(a.put o.dst v).tmps.getD x undef=a.tmps.getD x undef:=fun x=>by rw [put_getD,y1,if_neg (fun hh=>by cases hh.1)]
  refine⟨by simpa using h.size,fun j oj hoj hlj e he'=> ?_,by have:=h.mt; omega,by omega,fun j hj hjn=> ?_,by rw [put_size]; exact h.asize,by rw [put_defers]; exact h.defers,Nat.le_trans h.base hk.size,J.keeps hp hk h.inv,h.keeps.trans hk,fun d hno=> ?_,
   ρ1,hρ0.trans ha f4,fun ρ' ha'=>⟨(hfin ρ' ha').1,fun k ok d hkm hlk hok hdk β hβ=> ?_⟩⟩
  ·rw [lst_set hlt] at hlj ⊢
   rcases hlj with rfl | hlj
   ·rw [ho] at hoj; cases hoj
    exact .inr (hpre e he')
   ·exact .inr (h.closed j oj hoj hlj e he')
  ·rw [lst_set hlt,h.tl j hj hjn]
   omega
  ·rw [hput]
   exact h.old d (fun k ok hkm hlk hok=>hno k ok hkm ((lst_set hlt).2 (.inr hlk)) hok)
  ·rw [hput]
   have hlk':Lst listed k:=by
    rcases (lst_set hlt).1 hlk with e | e
    ·have:=h.mt; omega
    ·exact e
   exact (hrep ρ' (fun j hj=>(ha' j (Nat.lt_of_lt_of_le hj hn)).trans (ha j hj))).2 k ok d hkm hlk' hok hdk β hβ
include hX hp hd hm hst h0 in
theorem float_sound (hρ0:w0.n≤s0.nid∧Agree w0.n w0.ρ ρ0) {sn:St} {kn:KV} (hn:evT X os m (sm.toF s0,sm.kv) (os.length-m)=some (sn,kn)) (hl:allP sn.obs) {rb:Option Nat} {Q:Exit→Act→World→Prop} (hQ:∀ a w,RepR X.P J B M w0 kn sn a w→Q .normal a w):
  ∀ (fuel t:Nat) (st:St) (kt:KV) (listed:Array Bool) (a:Act) (w:World),unl listed os.length≤fuel→evT X os m (sm.toF s0,sm.kv) (t-m)=some (st,kt)→HalfF X J B M w0 os m t s0 a0 ρ0 sm st listed a w→wpAnyIn (Fl rb) 0 X.P .any ⟨os⟩ Q fuel listed a w:=by
 have hlm:allP sm.obs:=evT_obs (X:=X) (os:=os) (m:=m) (Nat.zero_le _) rfl hn hl
 have fin:∀ (t:Nat) (st:St) (kt:KV) (listed:Array Bool) (a:Act) (w:World),evT X os m (sm.toF s0,sm.kv) (t-m)=some (st,kt)→HalfF X J B M w0 os m t s0 a0 ρ0 sm st listed a w→(∀ k,k < os.length→Lst listed k)→Q .normal a w:=by
  intro t st kt listed a w ht h hall
  have htn:t=os.length:=by
   rcases Nat.lt_or_ge t os.length with hlt | hge
   ·have:=(h.tl t h.mt hlt).1 (hall t hlt)
    omega
   ·have:=h.tn; omega
  subst htn
  rw [ht] at hn
  cases hn
  refine hQ a w ?_
  obtain⟨f1,f2,f3,f4⟩:=evT_stores (s0:=sm.toF s0) (ws:=ws) hst ht
  have f1:sn.tmps=sm.tm:=f1
  have f2:kn=sm.kv:=f2
  have f4:s0.nid≤sn.nid:=f4
  obtain⟨ρ,hρ,hrep⟩:=h.rep
  obtain⟨k1,k2⟩:=evHd_keys hm
  subst f2
  refine⟨by rw [f1,k2]; exact h.asize,h.defers,h.base,h.inv,h.keeps,k1,ρ,⟨Nat.le_trans hρ0.1 f4,hρ0.2.trans hρ hρ0.1⟩,fun ρ' ha=>⟨(hrep ρ' ha).1,fun β hβ x=> ?_⟩⟩
  rw [f1]
  by_cases hw:∃ k o,k < m∧os[k]? =some o∧o.dst=some x
  ·obtain⟨k,o,hk,ho,hdk⟩:=hw
   exact (hrep ρ' ha).2 k o x hk (hall k (by have:=hd.le; omega)) ho hdk β hβ
  ·have hno:∀ k o,k < m→os[k]? =some o→o.dst≠some x:=fun k o hk ho e=>hw ⟨k,o,hk,ho,e⟩
   rw [h.old x (fun k o hk _ ho=>hno k o hk ho)]
   exact (evHd_slot (Nat.zero_le m) rfl hm hβ (fun k o _ hk ho=>hno k o hk ho)).1 (h0 ρ' (fun j hj=>by rw [ha j (by omega)]; exact hρ j hj) β x)
 intro fuel
 induction fuel with
 | zero=>
  intro t st kt listed a w hf ht h
  have hall:∀ k,k < os.length→Lst listed k:=fun k hk=>unl_zero (by omega) hk
  refine⟨?_,fin t st kt listed a w ht h hall⟩
  cases hr:Region.ready .any ⟨os⟩ listed with
  | nil=>rfl
  | cons x xs=>
   have:x∈Region.ready .any ⟨os⟩ listed:=by rw [hr]; simp
   obtain⟨⟨h1,h2⟩,_⟩:=ready_iff.1 this
   exact absurd (hall x (by rw [← h.size]; exact h1)) h2
 | succ fuel ih=>
  intro t st kt listed a w hf ht h
  refine⟨fun hr0=>fin t st kt listed a w ht h (fun k hk=>Classical.byContradiction fun hnk=> ?_),fun i hi=> ?_⟩
  ·haveI:DecidablePred fun k=>¬ Lst listed k:=fun k=>Classical.propDecidable _
   obtain⟨k',hk',hnl,hmin⟩:=least (p:=fun k=>¬ Lst listed k) os.length ⟨k,hk,hnk⟩
   obtain⟨o,ho⟩:∃ o,os[k']? =some o:=⟨os[k'],by simp [hk']⟩
   have:k'∈Region.ready .any ⟨os⟩ listed:=ready_iff.2 ⟨⟨by rw [h.size]; exact hk',hnl⟩,o,ho,fun e he=>Classical.byContradiction fun hn'=>hmin e (hd.fwd k' o ho e he) hn'⟩
   rw [hr0] at this
   cases this
  ·obtain⟨⟨h1,h2⟩,o,ho,hpre⟩:=ready_iff.1 hi
   have hin:i < os.length:=by rw [← h.size]; exact h1
   have hun:=unl_set hin h.size h2
   by_cases him:i < m
   ·exact halfF_head hX hp hd hm hst h0 hlm ht h him hi (fun a' w' h'=>ih t st kt _ a' w' (by omega) ht h')
   ·have hit:i=t:=by
     rcases Nat.lt_trichotomy i t with h' | h' | h'
     ·exact absurd ((h.tl i (by omega) hin).2 h') h2
     ·exact h'
     ·have:=hpre (i-1) (hd.chain i o (by have:=h.mt; omega) ho)
      have:=(h.tl (i-1) (by have:=h.mt; omega) (by omega)).1 this
      omega
    subst hit
    obtain⟨⟨s1,k1⟩,hq1⟩:=evT_some (i:=i-m+1) (by omega) hn
    obtain⟨s',kv',o',q1,q2,q3⟩:=evT_succ hq1
    rw [ht] at q1
    cases q1
    rw [show m+(i-m)=i by omega] at q2
    rw [ho] at q2
    cases q2
    exact halfF_tail hX hp hd hm hst h0 ht ho q3 (evT_obs (by omega) hq1 hn hl) h hpre hin (fun a' w' h'=>ih (i+1) s1 k1 _ a' w' (by omega) (by rw [show i+1-m=i-m+1 by omega]; exact hq1) h')
end
def eqNs:List Nat→List Nat→Bool
 | [],[] =>true
 | i ::r,j ::r'=>Nat.beq i j && eqNs r r'
 | _,_=>false
def evFloat (X:Cx) (os:List Oper) (m:Nat) (s:St):Option St:=
 match s with
 | ⟨tm,hp,nid,ds,obs,lp,rd,mk,bs⟩=>match storedIn tm (os.drop m) with
  | none=>none
  | some ws=>match evHd X false os nid (dropIds ws hp) ds tm obs m with
   | none=>none
   | some ⟨tm',_,ob,kv,_,_⟩=>match storedIn tm' (os.drop m) with
    | none=>none
    | some ws'=>match eqNs ws ws' with
     | false=>none
     | true=>match evT X os m (⟨tm',hp,nid,ds,ob,lp,rd,mk,bs⟩,kv) (os.length-m) with
      | none=>none
      | some (s',_)=>some s'
theorem eqNs_spec':∀ {l l':List Nat},eqNs l l'=true→l=l'
 | [],[],_=>rfl
 | [],_ ::_,h=>by simp [eqNs] at h
 | _ ::_,[],h=>by simp [eqNs] at h
 | i ::r,j ::r',h=>by
  simp only [eqNs,Bool.and_eq_true,Nat.beq_eq] at h
  rw [h.1,eqNs_spec' h.2]
theorem evFloat_some {X:Cx} {os:List Oper} {m:Nat} {s s':St} (h:evFloat X os m s=some s'):
  ∃ ws hm kn,evHd X false os s.nid (dropIds ws s.heap) s.ds s.tmps s.obs m=some hm∧storedIn hm.tm (os.drop m)=some ws∧evT X os m (hm.toF s,hm.kv) (os.length-m)=some (s',kn):=by
 unfold evFloat at h
 dsimp only at h
 split at h
 ·cases h
 rename_i ws hws
 split at h
 ·cases h
 rename_i he
 split at h
 ·cases h
 rename_i ws' hws'
 split at h
 ·cases h
 rename_i hq
 have:=eqNs_spec' hq
 subst this
 split at h
 ·cases h
 rename_i kn ht
 cases h
 exact⟨ws,_,_,he,hws',ht⟩
end
end Go.Proofs.YtdgfhijnconaoaaGreatDoor.Ev
