/-
 NumberSame: a number read from several spellings of the same value is the same; no condition (a part of the proof).
-/
import Derived.Test.YtdgfhijnconaoaaGreatDoorS1x03
import Derived.Test.YtdgfhijnconaoaaGreatDoorS1x04
import Derived.Test.YtdgfhijnconaoaaGreatDoorS1x07
import Derived.Test.YtdgfhijnconaoaaGreatDoorS1x17
set_option maxRecDepth 1000000
namespace Go.Proofs.YtdgfhijnconaoaaGreatDoor
open Go.ChangeShapes Go.WideShapes Go.ChangeAt Go.RowKit
theorem bP (H:Type) (enc:TypeId×Value→H) (W:World) (base:Nat) (args:Array Value) (ds gs:List (DataW H)) (before:List MemPlace)
  (hval:∀ (j:Nat) t v,Tryz.f5.params[j]? =some t→args[j]? =some v→Value.okWide Tryz.prog W .any base t v)
  (hW:DataW.Whole enc Tryz.prog Tryz.f5.params.toList Rows.numberSameSpec.vars false W args.toList ds gs before) (hG:J0.I W):
  Calls Tryz.prog 5 args W fun e W'=>∃ v,e= .returned v∧Rows.numberSameSpec.post enc Tryz.prog Tryz.f5 false true false false W args v W':=by
 have hW':=hW
 obtain⟨p,q,hA0,hV,rfl,hfz,hnd⟩:=hW
 have hA:DataW.TrodAll enc Tryz.prog W 0 (fun _=>true) true Tryz.f5.params.toList args.toList ds p:=hA0
 rw [Tryz.params5] at hA hval
 obtain⟨v0,vs0,d0,ds0,p0,q0,hargs,rfl,rfl,h0,r0⟩:=trodAll_cons hA
 obtain⟨v1,vs1,d1,ds1,p1,q1,rfl,rfl,rfl,h1,r1⟩:=trodAll_cons r0
 obtain⟨v2,vs2,d2,ds2,p2,q2,rfl,rfl,rfl,h2,r2⟩:=trodAll_cons r1
 obtain⟨rfl,rfl,rfl⟩:=trodAll_nil r2
 obtain rfl:args= #[v0,v1,v2] :=by cases args; simp_all
 obtain⟨rfl,rfl⟩:=trodVars_none hV
 obtain⟨F0,n0,o0,c0,_,q0,_⟩:=j0g (P:=Tryz.prog) c1w n1y (fun x:Int=>0≤x∧x < 256) Tryz.underlying22 (show Tryz.prog.cellsOf 5=1 by kernel_rfl) (hval 0 _ v0 rfl rfl) h0 zT
 obtain⟨F1,n1,o1,c1,_,q1,_⟩:=j0g (P:=Tryz.prog) c1w n1y (fun x:Int=>0≤x∧x < 256) Tryz.underlying22 (show Tryz.prog.cellsOf 5=1 by kernel_rfl) (hval 1 _ v1 rfl rfl) h1 zT
 obtain⟨a2,rfl,rfl,rfl,w2⟩:=open_int Tryz.underlying3 (hval 2 _ v2 rfl rfl) h2
 clear hA0
 simp only [List.append_nil] at hW'
 have hsem:=(qJ (n:=n0) (o:=o0) (m:=n1) (p:=o1) s1o q0 q1 (q0d w2)).2 W [v0,v1, .int .i64 a2] hG (.cons c0 (.cons c1 (.cons ⟨rfl,rfl⟩ .nil)))
 have hT:∀ t∈Tryz.f5.params.toList,t < Tryz.prog.types.size:=by
  rw [Tryz.params5]
  intro t ht
  simp only [List.mem_cons,List.not_mem_nil,or_false] at ht
  rcases ht with rfl | rfl | rfl <;> exact of_decide_eq_true (by kernel_rfl)
 refine hsem.mono fun e' W' ⟨us',he',hb,hc,_⟩=> ?_
 obtain⟨y,ys,rfl,⟨rfl,_⟩,hnil⟩:=hc.cons_inv
 obtain rfl:=hnil.nil_inv
 subst he'
 exact⟨_,rfl,xG e2j i0l hT rfl hW' (fun _ _ _=>trodAll_cons_mk (shut_bool Tryz.underlying4 _) trodAll_mk0) rfl rfl hb (ok_one (by kernel_rfl) rfl (okWide_bool_mk Tryz.underlying4 _))⟩
theorem nE (os:Os):laidMet Tryz.prog Rows.numberSameRow.laid ((lK os).forCall (fun _ _=>0) ⟨#[],#[.slice none 0 0, .slice none 0 0, .int .i64 0],[]⟩).memory:=
 laidMet_of_run' 8 (by kernel_rfl) (by kernel_rfl)
theorem jV (os:Os) {H:Type} (enc:TypeId×Value→H):∃ places,DataW.whole enc Tryz.prog ((lK os).forCall (fun _ _=>0) ⟨#[],#[.slice none 0 0, .slice none 0 0, .int .i64 0],[]⟩).memory Tryz.f5.params.toList Rows.numberSameSpec.vars false
  #[Value.slice none 0 0, .slice none 0 0, .int .i64 0].toList 8=some ([.nil, .nil, .lit (.int .i64 0)],[],places):=
 ⟨[],by kernel_rfl⟩
theorem gH (os:Os) (started:os.Started) (H:Type) (enc:TypeId×Value→H) (F:Stop.Interp):
  ReturnsInHanded {} Tryz.checked os 5 .any ((OpenSpec.ofChange Rows.numberSameSpec).preRow enc Tryz.prog Tryz.f5 Rows.numberSameRow.domain false Rows.numberSameRow.laid) (((OpenSpec.ofChange Rows.numberSameSpec).at F).post enc Tryz.prog Tryz.f5 false true false false):=by
 obtain⟨places,hx⟩:=jV os enc
 refine returnsInHanded_of_row (C:=Tryz.checked) (s:=OpenSpec.ofChange Rows.numberSameSpec) own started (by kernel_rfl) Tryz.func5
  (witness_row_at (enc:=enc) (C:=Tryz.checked) false (lK os) #[.slice none 0 0, .slice none 0 0, .int .i64 0] rfl (by kernel_rfl) (by kernel_rfl) (by kernel_rfl)
   (OpenSpec.preRow_of_cond 8 hx (by kernel_rfl) (fun k hk=>by cases hk) (by kernel_rfl) (nE os))) ?_
 intro W base args ds gs before hval hW _ _ _ hL hS _
 exact bP H enc W base args ds gs before hval hW (f0r hL hS)
theorem vD:(Rows.numberSameRow.wf (OpenSpec.ofChange (OpenSpec.ofChange Rows.numberSameSpec).bare))=true:=by kernel_rfl
theorem uT:(laidOutB Tryz.pinned.checked.prog)=true:=by kernel_rfl
theorem tY:(mapsRowed Tryz.pinned.checked.prog)=true:=by kernel_rfl
theorem wC:(Tryz.f5.params.all (Tryz.pinned.checked.prog.readableRec ·))=true:=by kernel_rfl
theorem vM:(namedTie Tryz.pinned.checked.prog Rows.numberSameRow.named (OpenSpec.ofChange Rows.numberSameSpec).bare.vars)=true:=by kernel_rfl
theorem xY:((Rows.numberSameRow.stops==[]))=true:=by kernel_rfl
theorem uC:((Tryz.pinned.checked.prog.stops==[]))=true:=by kernel_rfl
theorem yH:((Rows.numberSameRow.knobs==[]))=true:=by kernel_rfl
theorem yK:((Tryz.pinned.checked.prog.stopKnobs==[]))=true:=by kernel_rfl
theorem vT:((Rows.numberSameRow.inPlace==Tryz.pinned.checked.prog.inPlace 5))=true:=by kernel_rfl
theorem qO:((Rows.numberSameRow.unfollowed==Tryz.pinned.checked.prog.unfollowed 5))=true:=by kernel_rfl
theorem qL:((Rows.numberSameRow.recurses==Tryz.pinned.checked.prog.recurses 5))=true:=by kernel_rfl
theorem pV:((Rows.numberSameRow.named==Tryz.pinned.checked.prog.varsNamed 5))=true:=by kernel_rfl
theorem qQ:((Rows.numberSameRow.maps==(Tryz.f5.params.toList++(OpenSpec.ofChange Rows.numberSameSpec).bare.plain.varTypes Tryz.pinned.checked.prog).any (Tryz.pinned.checked.prog.mapsRec ·)))=true:=by kernel_rfl
theorem qC:((Rows.numberSameRow.ifaces==(Tryz.f5.params.toList++(OpenSpec.ofChange Rows.numberSameSpec).bare.plain.varTypes Tryz.pinned.checked.prog).any (Tryz.pinned.checked.prog.ifacesRec ·)))=true:=by kernel_rfl
theorem pT:((Rows.numberSameRow.mapsOut==Tryz.pinned.checked.prog.mapsAmong Tryz.f5.resultTypes.toList))=true:=by kernel_rfl
theorem pY:((Rows.numberSameRow.loops==(Tryz.f5.params.toList++(OpenSpec.ofChange Rows.numberSameSpec).bare.plain.varTypes Tryz.pinned.checked.prog).any (Tryz.pinned.checked.prog.loopsFrom ·)))=true:=by kernel_rfl
theorem pG:((Rows.numberSameRow.wideKeys==(Tryz.f5.params.toList++(OpenSpec.ofChange Rows.numberSameSpec).bare.plain.varTypes Tryz.pinned.checked.prog++Tryz.f5.resultTypes.toList).any (Tryz.pinned.checked.prog.wideKeysFrom ·)))=true:=by kernel_rfl
theorem pK:((OpenSpec.ofChange Rows.numberSameSpec).bare.vars.all (Tryz.pinned.checked.prog.varReadable ·))=true:=by kernel_rfl
theorem qF:(Tryz.f5.resultTypes.all (fun t=>Tryz.pinned.checked.prog.readableRec t && decide (t < Tryz.pinned.checked.prog.types.size)))=true:=by kernel_rfl
theorem qA:((Rows.numberSameRow.ifacesOut==Tryz.f5.resultTypes.toList.any (Tryz.pinned.checked.prog.ifacesRec ·)))=true:=by kernel_rfl
theorem qS:((Rows.numberSameRow.loopsOut==Tryz.f5.resultTypes.toList.any (Tryz.pinned.checked.prog.loopsFrom ·)))=true:=by kernel_rfl
theorem qH:((Rows.numberSameRow.plainKeys==Tryz.pinned.checked.prog.plainKeys))=true:=by kernel_rfl
theorem pQ:(Rows.numberSameRow.shortTexts.isNone)=true:=by kernel_rfl
theorem pF:(Tryz.pinned.checked.prog.stopsHeard)=true:=by kernel_rfl
theorem pU:(Tryz.pinned.checked.prog.mayEnter)=true:=by kernel_rfl
theorem pJ:((Rows.numberSameRow.lifted==Tryz.pinned.checked.prog.liftsFinal))=true:=by kernel_rfl
theorem qK:((Tryz.pinned.checked.prog.make==some Rows.numberSameRow.make))=true:=by kernel_rfl
theorem pL:((Rows.numberSameRow.kinds==(if Rows.numberSameRow.domain.isEmpty then [] else Tryz.f5.params.toList.map fun t=>match Tryz.pinned.checked.prog.underlying t with | some (.int k)=>some k | _=>none)))=true:=by kernel_rfl
theorem pI:((Rows.numberSameRow.pinned==Rows.numberSameRow.pinnedBy))=true:=by kernel_rfl
theorem qP:((Rows.numberSameRow.veiled==(Tryz.f5.params.toList++(OpenSpec.ofChange Rows.numberSameSpec).bare.plain.varTypes Tryz.pinned.checked.prog++Tryz.f5.resultTypes.toList).any (Tryz.pinned.checked.prog.veiledRec ·)))=true:=by kernel_rfl
theorem qX:(Rows.numberSameRow.veiledFits Tryz.pinned.checked.prog Tryz.f5.params.toList (Tryz.f5.params.toList++(OpenSpec.ofChange Rows.numberSameSpec).bare.plain.varTypes Tryz.pinned.checked.prog++Tryz.f5.resultTypes.toList))=true:=by kernel_rfl
theorem x6 {a b:Bool} (h1:a=true) (h2:b=true):(a && b)=true:=by rw [h1,h2]; rfl
theorem jO:joinedFacts Tryz.pinned.checked.prog 5 Tryz.f5 (OpenSpec.ofChange Rows.numberSameSpec).bare Rows.numberSameRow=true:=by
 unfold joinedFacts
 exact x6 (x6 (x6 (x6 (x6 (x6 (x6 (x6 (x6 (x6 (x6 (x6 (x6 (x6 (x6 (x6 (x6 (x6 (x6 (x6 (x6 (x6 (x6 (x6 (x6 (x6 (x6 (x6 (x6 (x6 (x6 vD uT) tY) wC) vM) xY) uC) yH) yK) vT) qO) qL) pV) qQ) qC) pT) pY) pG) pK) qF) qA) qS) qH) pQ) pF) pU) pJ) qK) pL) pI) qP) qX
theorem jQ:true=Tryz.pinned.checked.prog.looks [] :=by kernel_rfl
theorem pA:false=Rows.numberSameRow.goesBy Tryz.pinned.checked.prog:=by kernel_rfl
theorem lQ:Rows.numberSameRow.wfByText (OpenSpec.ofChange Rows.numberSameSpec)=true:=by kernel_rfl
theorem tX:Tryz.pinned.checked.prog.funcNamed Rows.numberSameRow.func=some 5:=by kernel_rfl
theorem oV:Rows.NumberSameSaid:=
 OpenClaim.holds_of_cond 5 Tryz.f5 rfl rfl rfl rfl rfl rfl rfl ⟨rfl,rfl,rfl,rfl,rfl⟩ rfl rfl rfl rfl rfl tX Tryz.func5 jO
  (of_decide_eq_true (by kernel_rfl)) (by unfold Func.isWrapper; first | (rw [if_pos (by decide+kernel)]; kernel_rfl) | (rw [if_neg (by decide+kernel)]; exact⟨rfl,rfl⟩))
  (fun os started H enc _ F=>by rw [OpenClaim.pre_eq_preRow]; exact gH os started H enc F)
theorem jS (f:FuncId) (fn:Func) (hf:Tryz.pinned.checked.prog.funcNamed "quadrille/quadrillelaw05.NumberSame" =some f) (hfn:Tryz.pinned.checked.prog.funcs[f]? =some fn):
  true=Tryz.pinned.checked.prog.looks [] ∧∀ (j:Nat) t,fn.params[j]? =some t→Tryz.pinned.checked.prog.wantsStandIn t=false:=by
 obtain rfl:f=5:=Option.some.inj ((show Tryz.prog.funcNamed "quadrille/quadrillelaw05.NumberSame" =some 5 by kernel_rfl).symm.trans hf) |>.symm
 obtain rfl:fn=Tryz.f5:=(Option.some.inj (Tryz.func5.symm.trans hfn)).symm
 refine⟨jQ,fun j t ht=> ?_⟩
 rw [Tryz.params5] at ht
 have hm:=Array.mem_of_getElem? ht
 simp only [List.mem_toArray,List.mem_cons,List.not_mem_nil,or_false] at hm
 rcases hm with rfl | rfl | rfl
 ·exact (show Tryz.prog.wantsStandIn 22=false by kernel_rfl)
 ·exact (show Tryz.prog.wantsStandIn 22=false by kernel_rfl)
 ·exact (show Tryz.prog.wantsStandIn 3=false by kernel_rfl)
theorem numberSame_card:Rows.NumberSameCardSaid:=
 Claim7.holds_tied_plain_at .later [] _ _ _ _ oV (fun _ h=>by cases h) lQ (fun _ h=>by cases h) numberSame_row_tie rfl ⟨rfl,rfl⟩ (by kernel_rfl) rfl jS pA
#print axioms numberSame_card
end Go.Proofs.YtdgfhijnconaoaaGreatDoor
