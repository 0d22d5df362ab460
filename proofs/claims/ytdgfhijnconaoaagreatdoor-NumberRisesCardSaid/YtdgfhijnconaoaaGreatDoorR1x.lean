/-
 NumberRises: of two texts the one with the greater value is never read as the lesser number; no condition (a part of the proof).
-/
import Derived.Test.YtdgfhijnconaoaaGreatDoorR1x05
import Derived.Test.YtdgfhijnconaoaaGreatDoorR1x06
import Derived.Test.YtdgfhijnconaoaaGreatDoorR1x10
import Derived.Test.YtdgfhijnconaoaaGreatDoorR1x20
set_option maxRecDepth 1000000
namespace Go.Proofs.YtdgfhijnconaoaaGreatDoor
open Go.ChangeShapes Go.WideShapes Go.ChangeAt Go.RowKit
theorem numberRises_contract (H:Type) (enc:TypeId×Value→H) (W:World) (base:Nat) (args:Array Value) (ds gs:List (DataW H)) (before:List MemPlace)
  (hval:∀ (j:Nat) t v,Tryz.f3.params[j]? =some t→args[j]? =some v→Value.okWide Tryz.prog W .any base t v)
  (hW:DataW.Whole enc Tryz.prog Tryz.f3.params.toList Rows.numberRisesSpec.vars false W args.toList ds gs before) (hG:J0.I W):
  Calls Tryz.prog 3 args W fun e W'=>∃ v,e= .returned v∧Rows.numberRisesSpec.post enc Tryz.prog Tryz.f3 false true false false W args v W':=by
 have hW':=hW
 obtain⟨p,q,hA0,hV,rfl,hfz,hnd⟩:=hW
 have hA:DataW.TrodAll enc Tryz.prog W 0 (fun _=>true) true Tryz.f3.params.toList args.toList ds p:=hA0
 rw [Tryz.params3] at hA hval
 obtain⟨v0,vs0,d0,ds0,p0,q0,hargs,rfl,rfl,h0,r0⟩:=trodAll_cons hA
 obtain⟨v1,vs1,d1,ds1,p1,q1,rfl,rfl,rfl,h1,r1⟩:=trodAll_cons r0
 obtain⟨v2,vs2,d2,ds2,p2,q2,rfl,rfl,rfl,h2,r2⟩:=trodAll_cons r1
 obtain⟨rfl,rfl,rfl⟩:=trodAll_nil r2
 obtain rfl:args= #[v0,v1,v2] :=by cases args; simp_all
 obtain⟨rfl,rfl⟩:=trodVars_none hV
 obtain⟨F0,n0,o0,c0,_,q0,_⟩:=open_fam (P:=Tryz.prog) byteV byteD (fun x:Int=>0≤x∧x < 256) Tryz.underlying22 (show Tryz.prog.cellsOf 5=1 by kernel_rfl) (hval 0 _ v0 rfl rfl) h0 byte_elem
 obtain⟨F1,n1,o1,c1,_,q1,_⟩:=open_fam (P:=Tryz.prog) byteV byteD (fun x:Int=>0≤x∧x < 256) Tryz.underlying22 (show Tryz.prog.cellsOf 5=1 by kernel_rfl) (hval 1 _ v1 rfl rfl) h1 byte_elem
 obtain⟨a2,rfl,rfl,rfl,w2⟩:=open_int Tryz.underlying3 (hval 2 _ v2 rfl rfl) h2
 clear hA0
 simp only [List.append_nil] at hW'
 have hsem:=(numberRises_sem (n:=n0) (o:=o0) (m:=n1) (p:=o1) awake5 q0 q1 (int_range w2)).2 W [v0,v1, .int .i64 a2] hG (.cons c0 (.cons c1 (.cons ⟨rfl,rfl⟩ .nil)))
 have hT:∀ t∈Tryz.f3.params.toList,t < Tryz.prog.types.size:=by
  rw [Tryz.params3]
  intro t ht
  simp only [List.mem_cons,List.not_mem_nil,or_false] at ht
  rcases ht with rfl | rfl | rfl <;> exact of_decide_eq_true (by kernel_rfl)
 refine hsem.mono fun e' W' ⟨us',he',hb,hc,_⟩=> ?_
 obtain⟨y,ys,rfl,⟨rfl,_⟩,hnil⟩:=hc.cons_inv
 obtain rfl:=hnil.nil_inv
 subst he'
 exact⟨_,rfl,post_of_reads kids slices_full hT rfl hW' (fun _ _ _=>trodAll_cons_mk (shut_bool Tryz.underlying4 _) trodAll_mk0) rfl rfl hb (ok_one (by kernel_rfl) rfl (okWide_bool_mk Tryz.underlying4 _))⟩
theorem numberRises_laid (os:Os):laidMet Tryz.prog Rows.numberRisesRow.laid ((laidWorld os).forCall (fun _ _=>0) ⟨#[],#[.slice none 0 0, .slice none 0 0, .int .i64 0],[]⟩).memory:=
 laidMet_of_run' 8 (by kernel_rfl) (by kernel_rfl)
theorem numberRises_reads (os:Os) {H:Type} (enc:TypeId×Value→H):∃ places,DataW.whole enc Tryz.prog ((laidWorld os).forCall (fun _ _=>0) ⟨#[],#[.slice none 0 0, .slice none 0 0, .int .i64 0],[]⟩).memory Tryz.f3.params.toList Rows.numberRisesSpec.vars false
  #[Value.slice none 0 0, .slice none 0 0, .int .i64 0].toList 8=some ([.nil, .nil, .lit (.int .i64 0)],[],places):=
 ⟨[],by kernel_rfl⟩
theorem numberRises_lifted (os:Os) (started:os.Started) (H:Type) (enc:TypeId×Value→H) (F:Stop.Interp):
  ReturnsInHanded {} Tryz.checked os 3 .any ((OpenSpec.ofChange Rows.numberRisesSpec).preRow enc Tryz.prog Tryz.f3 Rows.numberRisesRow.domain false Rows.numberRisesRow.laid) (((OpenSpec.ofChange Rows.numberRisesSpec).at F).post enc Tryz.prog Tryz.f3 false true false false):=by
 obtain⟨places,hx⟩:=numberRises_reads os enc
 refine returnsInHanded_of_row (C:=Tryz.checked) (s:=OpenSpec.ofChange Rows.numberRisesSpec) own started (by kernel_rfl) Tryz.func3
  (witness_row_at (enc:=enc) (C:=Tryz.checked) false (laidWorld os) #[.slice none 0 0, .slice none 0 0, .int .i64 0] rfl (by kernel_rfl) (by kernel_rfl) (by kernel_rfl)
   (OpenSpec.preRow_of_cond 8 hx (by kernel_rfl) (fun k hk=>by cases hk) (by kernel_rfl) (numberRises_laid os))) ?_
 intro W base args ds gs before hval hW _ _ _ hL hS _
 exact numberRises_contract H enc W base args ds gs before hval hW (inv_of_laid hL hS)
theorem numberRises_j0:(Rows.numberRisesRow.wf (OpenSpec.ofChange (OpenSpec.ofChange Rows.numberRisesSpec).bare))=true:=by kernel_rfl
theorem numberRises_j1:(laidOutB Tryz.pinned.checked.prog)=true:=by kernel_rfl
theorem numberRises_j2:(mapsRowed Tryz.pinned.checked.prog)=true:=by kernel_rfl
theorem numberRises_j3:(Tryz.f3.params.all (Tryz.pinned.checked.prog.readableRec ·))=true:=by kernel_rfl
theorem numberRises_j4:(namedTie Tryz.pinned.checked.prog Rows.numberRisesRow.named (OpenSpec.ofChange Rows.numberRisesSpec).bare.vars)=true:=by kernel_rfl
theorem numberRises_j5:((Rows.numberRisesRow.stops==[]))=true:=by kernel_rfl
theorem numberRises_j6:((Tryz.pinned.checked.prog.stops==[]))=true:=by kernel_rfl
theorem numberRises_j7:((Rows.numberRisesRow.knobs==[]))=true:=by kernel_rfl
theorem numberRises_j8:((Tryz.pinned.checked.prog.stopKnobs==[]))=true:=by kernel_rfl
theorem numberRises_j9:((Rows.numberRisesRow.inPlace==Tryz.pinned.checked.prog.inPlace 3))=true:=by kernel_rfl
theorem numberRises_j10:((Rows.numberRisesRow.unfollowed==Tryz.pinned.checked.prog.unfollowed 3))=true:=by kernel_rfl
theorem numberRises_j11:((Rows.numberRisesRow.recurses==Tryz.pinned.checked.prog.recurses 3))=true:=by kernel_rfl
theorem numberRises_j12:((Rows.numberRisesRow.named==Tryz.pinned.checked.prog.varsNamed 3))=true:=by kernel_rfl
theorem numberRises_j13:((Rows.numberRisesRow.maps==(Tryz.f3.params.toList++(OpenSpec.ofChange Rows.numberRisesSpec).bare.plain.varTypes Tryz.pinned.checked.prog).any (Tryz.pinned.checked.prog.mapsRec ·)))=true:=by kernel_rfl
theorem numberRises_j14:((Rows.numberRisesRow.ifaces==(Tryz.f3.params.toList++(OpenSpec.ofChange Rows.numberRisesSpec).bare.plain.varTypes Tryz.pinned.checked.prog).any (Tryz.pinned.checked.prog.ifacesRec ·)))=true:=by kernel_rfl
theorem numberRises_j15:((Rows.numberRisesRow.mapsOut==Tryz.pinned.checked.prog.mapsAmong Tryz.f3.resultTypes.toList))=true:=by kernel_rfl
theorem numberRises_j16:((Rows.numberRisesRow.loops==(Tryz.f3.params.toList++(OpenSpec.ofChange Rows.numberRisesSpec).bare.plain.varTypes Tryz.pinned.checked.prog).any (Tryz.pinned.checked.prog.loopsFrom ·)))=true:=by kernel_rfl
theorem numberRises_j17:((Rows.numberRisesRow.wideKeys==(Tryz.f3.params.toList++(OpenSpec.ofChange Rows.numberRisesSpec).bare.plain.varTypes Tryz.pinned.checked.prog++Tryz.f3.resultTypes.toList).any (Tryz.pinned.checked.prog.wideKeysFrom ·)))=true:=by kernel_rfl
theorem numberRises_j18:((OpenSpec.ofChange Rows.numberRisesSpec).bare.vars.all (Tryz.pinned.checked.prog.varReadable ·))=true:=by kernel_rfl
theorem numberRises_j19:(Tryz.f3.resultTypes.all (fun t=>Tryz.pinned.checked.prog.readableRec t && decide (t < Tryz.pinned.checked.prog.types.size)))=true:=by kernel_rfl
theorem numberRises_j20:((Rows.numberRisesRow.ifacesOut==Tryz.f3.resultTypes.toList.any (Tryz.pinned.checked.prog.ifacesRec ·)))=true:=by kernel_rfl
theorem numberRises_j21:((Rows.numberRisesRow.loopsOut==Tryz.f3.resultTypes.toList.any (Tryz.pinned.checked.prog.loopsFrom ·)))=true:=by kernel_rfl
theorem numberRises_j22:((Rows.numberRisesRow.plainKeys==Tryz.pinned.checked.prog.plainKeys))=true:=by kernel_rfl
theorem numberRises_j23:(Rows.numberRisesRow.shortTexts.isNone)=true:=by kernel_rfl
theorem numberRises_j24:(Tryz.pinned.checked.prog.stopsHeard)=true:=by kernel_rfl
theorem numberRises_j25:(Tryz.pinned.checked.prog.mayEnter)=true:=by kernel_rfl
theorem numberRises_j26:((Rows.numberRisesRow.lifted==Tryz.pinned.checked.prog.liftsFinal))=true:=by kernel_rfl
theorem numberRises_j27:((Tryz.pinned.checked.prog.make==some Rows.numberRisesRow.make))=true:=by kernel_rfl
theorem numberRises_j28:((Rows.numberRisesRow.kinds==(if Rows.numberRisesRow.domain.isEmpty then [] else Tryz.f3.params.toList.map fun t=>match Tryz.pinned.checked.prog.underlying t with | some (.int k)=>some k | _=>none)))=true:=by kernel_rfl
theorem numberRises_j29:((Rows.numberRisesRow.pinned==Rows.numberRisesRow.pinnedBy))=true:=by kernel_rfl
theorem numberRises_j30:((Rows.numberRisesRow.veiled==(Tryz.f3.params.toList++(OpenSpec.ofChange Rows.numberRisesSpec).bare.plain.varTypes Tryz.pinned.checked.prog++Tryz.f3.resultTypes.toList).any (Tryz.pinned.checked.prog.veiledRec ·)))=true:=by kernel_rfl
theorem numberRises_j31:(Rows.numberRisesRow.veiledFits Tryz.pinned.checked.prog Tryz.f3.params.toList (Tryz.f3.params.toList++(OpenSpec.ofChange Rows.numberRisesSpec).bare.plain.varTypes Tryz.pinned.checked.prog++Tryz.f3.resultTypes.toList))=true:=by kernel_rfl
theorem and_mk {a b:Bool} (h1:a=true) (h2:b=true):(a && b)=true:=by rw [h1,h2]; rfl
theorem numberRises_facts:joinedFacts Tryz.pinned.checked.prog 3 Tryz.f3 (OpenSpec.ofChange Rows.numberRisesSpec).bare Rows.numberRisesRow=true:=by
 unfold joinedFacts
 exact and_mk (and_mk (and_mk (and_mk (and_mk (and_mk (and_mk (and_mk (and_mk (and_mk (and_mk (and_mk (and_mk (and_mk (and_mk (and_mk (and_mk (and_mk (and_mk (and_mk (and_mk (and_mk (and_mk (and_mk (and_mk (and_mk (and_mk (and_mk (and_mk (and_mk (and_mk numberRises_j0 numberRises_j1) numberRises_j2) numberRises_j3) numberRises_j4) numberRises_j5) numberRises_j6) numberRises_j7) numberRises_j8) numberRises_j9) numberRises_j10) numberRises_j11) numberRises_j12) numberRises_j13) numberRises_j14) numberRises_j15) numberRises_j16) numberRises_j17) numberRises_j18) numberRises_j19) numberRises_j20) numberRises_j21) numberRises_j22) numberRises_j23) numberRises_j24) numberRises_j25) numberRises_j26) numberRises_j27) numberRises_j28) numberRises_j29) numberRises_j30) numberRises_j31
theorem numberRises_looks:true=Tryz.pinned.checked.prog.looks [] :=by kernel_rfl
theorem numberRises_goes:false=Rows.numberRisesRow.goesBy Tryz.pinned.checked.prog:=by kernel_rfl
theorem numberRises_text:Rows.numberRisesRow.wfByText (OpenSpec.ofChange Rows.numberRisesSpec)=true:=by kernel_rfl
theorem numberRises_at:Tryz.pinned.checked.prog.funcNamed Rows.numberRisesRow.func=some 3:=by kernel_rfl
theorem numberRises_said:Rows.NumberRisesSaid:=
 OpenClaim.holds_of_cond 3 Tryz.f3 rfl rfl rfl rfl rfl rfl rfl ⟨rfl,rfl,rfl,rfl,rfl⟩ rfl rfl rfl rfl rfl numberRises_at Tryz.func3 numberRises_facts
  (of_decide_eq_true (by kernel_rfl)) (by unfold Func.isWrapper; first | (rw [if_pos (by decide+kernel)]; kernel_rfl) | (rw [if_neg (by decide+kernel)]; exact⟨rfl,rfl⟩))
  (fun os started H enc _ F=>by rw [OpenClaim.pre_eq_preRow]; exact numberRises_lifted os started H enc F)
theorem numberRises_plain (f:FuncId) (fn:Func) (hf:Tryz.pinned.checked.prog.funcNamed "quadrille/quadrillelaw05.NumberRises" =some f) (hfn:Tryz.pinned.checked.prog.funcs[f]? =some fn):
  true=Tryz.pinned.checked.prog.looks [] ∧∀ (j:Nat) t,fn.params[j]? =some t→Tryz.pinned.checked.prog.wantsStandIn t=false:=by
 obtain rfl:f=3:=Option.some.inj ((show Tryz.prog.funcNamed "quadrille/quadrillelaw05.NumberRises" =some 3 by kernel_rfl).symm.trans hf) |>.symm
 obtain rfl:fn=Tryz.f3:=(Option.some.inj (Tryz.func3.symm.trans hfn)).symm
 refine⟨numberRises_looks,fun j t ht=> ?_⟩
 rw [Tryz.params3] at ht
 have hm:=Array.mem_of_getElem? ht
 simp only [List.mem_toArray,List.mem_cons,List.not_mem_nil,or_false] at hm
 rcases hm with rfl | rfl | rfl
 ·exact (show Tryz.prog.wantsStandIn 22=false by kernel_rfl)
 ·exact (show Tryz.prog.wantsStandIn 22=false by kernel_rfl)
 ·exact (show Tryz.prog.wantsStandIn 3=false by kernel_rfl)
theorem numberRises_card:Rows.NumberRisesCardSaid:=
 Claim7.holds_tied_plain_at .later [] _ _ _ _ numberRises_said (fun _ h=>by cases h) numberRises_text (fun _ h=>by cases h) numberRises_row_tie rfl ⟨rfl,rfl⟩ (by kernel_rfl) rfl numberRises_plain numberRises_goes
#print axioms numberRises_card
end Go.Proofs.YtdgfhijnconaoaaGreatDoor
