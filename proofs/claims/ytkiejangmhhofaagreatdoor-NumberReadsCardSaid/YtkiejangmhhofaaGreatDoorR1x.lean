/-
 NumberReads: any text is read as the document reads it; no condition (a part of the proof).
-/
import Derived.Test.YtkiejangmhhofaaGreatDoorR1x06
import Derived.Test.YtkiejangmhhofaaGreatDoorR1x17
set_option maxRecDepth 1000000
open Go.Proofs.Tryz renaming prog->zO8
open Go.IntKind renaming i64->iI,u64->uI,u32->uJ,u8->uB
noncomputable section
namespace Go.Proofs.YtkiejangmhhofaaGreatDoor
open Go.ChangeShapes Go.WideShapes Go.ChangeAt Go.RowKit
theorem fO (H:Type) (enc:TypeId×Value->H) (W:World) (base:Nat) (args:Array Value) (ds gs:List (DataW H)) (before:List MemPlace)
  (hval:∀ (j:Nat) t v,Tryz.f3.params[j]? =some t->args[j]? =some v->Value.okWide zO8 W .any base t v)
  (hW:DataW.Whole enc zO8 Tryz.f3.params.toList Rows.numberReadsSpec.vars false W args.toList ds gs before) (hG:J0.I W):
  Calls zO8 3 args W fun e W'=>∃ v,e= .returned v∧Rows.numberReadsSpec.post enc zO8 Tryz.f3 false true false false W args v W':=by
 have hW':=hW
 obtain⟨p,q,hA0,hV,rfl,hfz,hnd⟩:=hW
 have hA:DataW.TrodAll enc zO8 W 0 (fun _=>true) true Tryz.f3.params.toList args.toList ds p:=hA0
 rw [Tryz.params3] at hA hval
 obtain⟨v0,vs0,d0,ds0,p0,q0,hargs,rfl,rfl,h0,r0⟩:=trodAll_cons hA
 obtain⟨rfl,rfl,rfl⟩:=trodAll_nil r0
 obtain rfl:args= #[v0] :=by cases args; simp_all
 obtain⟨rfl,rfl⟩:=trodVars_none hV
 obtain⟨s0,rfl,rfl,rfl,w0⟩:=Go.ChangeMaps.open_string Tryz.underlying9 (hval 0 _ v0 rfl rfl) h0
 clear hA0
 simp only [a1a] at hW'
 have he:Enters zO8 3:=enters_of Tryz.func3 (by kernel_rfl) (c:=_) rfl
 refine (i0j (rE p2d s0) he W hG).mono fun e' W' ⟨he',hb⟩=> ?_
 subst he'
 exact⟨_,rfl,d0y hW' (fun _ _ _=>trodAll_cons_mk (shut_bool Tryz.underlying4 _) trodAll_mk0)
  (fun _=>trodAll_cons_mk (Go.ChangeMaps.shut_string Tryz.underlying9 w0) trodAll_mk0) (fun _=>rfl) hb (ok_one (by kernel_rfl) rfl (okWide_bool_mk Tryz.underlying4 _))⟩
theorem qW (os:Os):laidMet zO8 Rows.numberReadsRow.laid ((uG os).forCall (fun _ _=>0) ⟨#[],#[.string ⟨#[]⟩],[]⟩).memory:=
 laidMet_of_run' 8 (by kernel_rfl) (by kernel_rfl)
theorem nV (os:Os) {H:Type} (enc:TypeId×Value->H):∃ places,DataW.whole enc zO8 ((uG os).forCall (fun _ _=>0) ⟨#[],#[.string ⟨#[]⟩],[]⟩).memory Tryz.f3.params.toList Rows.numberReadsSpec.vars false
  #[Value.string ⟨#[]⟩].toList 8=some ([.lit (.string [])],[],places):=
 ⟨[],by kernel_rfl⟩
theorem kB (os:Os) (started:os.Started) (H:Type) (enc:TypeId×Value->H) (F:Stop.Interp):
  ReturnsInHanded {} Tryz.checked os 3 .any ((OpenSpec.ofChange Rows.numberReadsSpec).preRow enc zO8 Tryz.f3 Rows.numberReadsRow.domain false Rows.numberReadsRow.laid) (((OpenSpec.ofChange Rows.numberReadsSpec).at F).post enc zO8 Tryz.f3 false true false false):=by
 obtain⟨places,hx⟩:=nV os enc
 refine returnsInHanded_of_row (C:=Tryz.checked) (s:=OpenSpec.ofChange Rows.numberReadsSpec) own started (by kernel_rfl) Tryz.func3
  (witness_row_at (enc:=enc) (C:=Tryz.checked) false (uG os) #[.string ⟨#[]⟩] rfl (by kernel_rfl) (by kernel_rfl) (by kernel_rfl)
   (OpenSpec.preRow_of_cond 8 hx (by kernel_rfl) (fun k hk=>by cases hk) (by kernel_rfl) (qW os))) ?_
 intro W base args ds gs before hval hW _ _ _ hL hS _
 exact fO H enc W base args ds gs before hval hW (p0u hL hS)
theorem yW:(Rows.numberReadsRow.wf (OpenSpec.ofChange (OpenSpec.ofChange Rows.numberReadsSpec).bare))=true:=by kernel_rfl
theorem zJ:(laidOutB Tryz.pinned.checked.prog)=true:=by kernel_rfl
theorem zH:(mapsRowed Tryz.pinned.checked.prog)=true:=by kernel_rfl
theorem zI:(Tryz.f3.params.all (Tryz.pinned.checked.prog.readableRec ·))=true:=by kernel_rfl
theorem zK:(namedTie Tryz.pinned.checked.prog Rows.numberReadsRow.named (OpenSpec.ofChange Rows.numberReadsSpec).bare.vars)=true:=by kernel_rfl
theorem yZ:((Rows.numberReadsRow.stops==[]))=true:=by kernel_rfl
theorem yP:((Tryz.pinned.checked.prog.stops==[]))=true:=by kernel_rfl
theorem yX:((Rows.numberReadsRow.knobs==[]))=true:=by kernel_rfl
theorem yU:((Tryz.pinned.checked.prog.stopKnobs==[]))=true:=by kernel_rfl
theorem zB:((Rows.numberReadsRow.inPlace==Tryz.pinned.checked.prog.inPlace 3))=true:=by kernel_rfl
theorem sO:((Rows.numberReadsRow.unfollowed==Tryz.pinned.checked.prog.unfollowed 3))=true:=by kernel_rfl
theorem xK:((Rows.numberReadsRow.recurses==Tryz.pinned.checked.prog.recurses 3))=true:=by kernel_rfl
theorem tO:((Rows.numberReadsRow.named==Tryz.pinned.checked.prog.varsNamed 3))=true:=by kernel_rfl
theorem vU:((Rows.numberReadsRow.maps==(Tryz.f3.params.toList++(OpenSpec.ofChange Rows.numberReadsSpec).bare.plain.varTypes Tryz.pinned.checked.prog).any (Tryz.pinned.checked.prog.mapsRec ·)))=true:=by kernel_rfl
theorem uH:((Rows.numberReadsRow.ifaces==(Tryz.f3.params.toList++(OpenSpec.ofChange Rows.numberReadsSpec).bare.plain.varTypes Tryz.pinned.checked.prog).any (Tryz.pinned.checked.prog.ifacesRec ·)))=true:=by kernel_rfl
theorem vI:((Rows.numberReadsRow.mapsOut==Tryz.pinned.checked.prog.mapsAmong Tryz.f3.resultTypes.toList))=true:=by kernel_rfl
theorem sS:((Rows.numberReadsRow.loops==(Tryz.f3.params.toList++(OpenSpec.ofChange Rows.numberReadsSpec).bare.plain.varTypes Tryz.pinned.checked.prog).any (Tryz.pinned.checked.prog.loopsFrom ·)))=true:=by kernel_rfl
theorem tZ:((Rows.numberReadsRow.wideKeys==(Tryz.f3.params.toList++(OpenSpec.ofChange Rows.numberReadsSpec).bare.plain.varTypes Tryz.pinned.checked.prog++Tryz.f3.resultTypes.toList).any (Tryz.pinned.checked.prog.wideKeysFrom ·)))=true:=by kernel_rfl
theorem xU:((OpenSpec.ofChange Rows.numberReadsSpec).bare.vars.all (Tryz.pinned.checked.prog.varReadable ·))=true:=by kernel_rfl
theorem vQ:(Tryz.f3.resultTypes.all (fun t=>Tryz.pinned.checked.prog.readableRec t && decide (t < Tryz.pinned.checked.prog.types.size)))=true:=by kernel_rfl
theorem tN:((Rows.numberReadsRow.ifacesOut==Tryz.f3.resultTypes.toList.any (Tryz.pinned.checked.prog.ifacesRec ·)))=true:=by kernel_rfl
theorem wZ:((Rows.numberReadsRow.loopsOut==Tryz.f3.resultTypes.toList.any (Tryz.pinned.checked.prog.loopsFrom ·)))=true:=by kernel_rfl
theorem vX:((Rows.numberReadsRow.plainKeys==Tryz.pinned.checked.prog.plainKeys))=true:=by kernel_rfl
theorem uA:(Rows.numberReadsRow.shortTexts.isNone)=true:=by kernel_rfl
theorem tL:(Tryz.pinned.checked.prog.stopsHeard)=true:=by kernel_rfl
theorem vF:(Tryz.pinned.checked.prog.mayEnter)=true:=by kernel_rfl
theorem tQ:((Rows.numberReadsRow.lifted==Tryz.pinned.checked.prog.liftsFinal))=true:=by kernel_rfl
theorem xA:((Tryz.pinned.checked.prog.make==some Rows.numberReadsRow.make))=true:=by kernel_rfl
theorem wH:((Rows.numberReadsRow.kinds==(if Rows.numberReadsRow.domain.isEmpty then [] else Tryz.f3.params.toList.map fun t=>match Tryz.pinned.checked.prog.underlying t with | some (.int k)=>some k | _=>none)))=true:=by kernel_rfl
theorem sJ:((Rows.numberReadsRow.pinned==Rows.numberReadsRow.pinnedBy))=true:=by kernel_rfl
theorem tE:((Rows.numberReadsRow.veiled==(Tryz.f3.params.toList++(OpenSpec.ofChange Rows.numberReadsSpec).bare.plain.varTypes Tryz.pinned.checked.prog++Tryz.f3.resultTypes.toList).any (Tryz.pinned.checked.prog.veiledRec ·)))=true:=by kernel_rfl
theorem wI:(Rows.numberReadsRow.veiledFits Tryz.pinned.checked.prog Tryz.f3.params.toList (Tryz.f3.params.toList++(OpenSpec.ofChange Rows.numberReadsSpec).bare.plain.varTypes Tryz.pinned.checked.prog++Tryz.f3.resultTypes.toList))=true:=by kernel_rfl
theorem C7 {a b:Bool} (h1:a=true) (h2:b=true):(a && b)=true:=by rw [h1,h2]; rfl
theorem nT:joinedFacts Tryz.pinned.checked.prog 3 Tryz.f3 (OpenSpec.ofChange Rows.numberReadsSpec).bare Rows.numberReadsRow=true:=by
 unfold joinedFacts
 exact C7 (C7 (C7 (C7 (C7 (C7 (C7 (C7 (C7 (C7 (C7 (C7 (C7 (C7 (C7 (C7 (C7 (C7 (C7 (C7 (C7 (C7 (C7 (C7 (C7 (C7 (C7 (C7 (C7 (C7 (C7 yW zJ) zH) zI) zK) yZ) yP) yX) yU) zB) sO) xK) tO) vU) uH) vI) sS) tZ) xU) vQ) tN) wZ) vX) uA) tL) vF) tQ) xA) wH) sJ) tE) wI
theorem oQ:true=Tryz.pinned.checked.prog.looks [] :=by kernel_rfl
theorem qZ:false=Rows.numberReadsRow.goesBy Tryz.pinned.checked.prog:=by kernel_rfl
theorem qY:Rows.numberReadsRow.wfByText (OpenSpec.ofChange Rows.numberReadsSpec)=true:=by kernel_rfl
theorem yJ:Tryz.pinned.checked.prog.funcNamed Rows.numberReadsRow.func=some 3:=by kernel_rfl
theorem qQ:Rows.NumberReadsSaid:=
 OpenClaim.holds_of_cond 3 Tryz.f3 rfl rfl rfl rfl rfl rfl rfl ⟨rfl,rfl,rfl,rfl,rfl⟩ rfl rfl rfl rfl rfl yJ Tryz.func3 nT
  (G5 (by kernel_rfl)) (by unfold Func.isWrapper; first | (rw [f9 (by decide+kernel)]; kernel_rfl) | (rw [a7 (by decide+kernel)]; exact⟨rfl,rfl⟩))
  (fun os started H enc _ F=>by rw [OpenClaim.pre_eq_preRow]; exact kB os started H enc F)
theorem oS (f:FuncId) (fn:Func) (hf:Tryz.pinned.checked.prog.funcNamed "quadrille/quadrillelaw05.NumberReads" =some f) (hfn:Tryz.pinned.checked.prog.funcs[f]? =some fn):
  true=Tryz.pinned.checked.prog.looks [] ∧∀ (j:Nat) t,fn.params[j]? =some t->Tryz.pinned.checked.prog.wantsStandIn t=false:=by
 obtain rfl:f=3:=bM ((show zO8.funcNamed "quadrille/quadrillelaw05.NumberReads" =some 3 by kernel_rfl).symm.trans hf) |>.symm
 obtain rfl:fn=Tryz.f3:=(bM (Tryz.func3.symm.trans hfn)).symm
 refine⟨oQ,fun j t ht=> ?_⟩
 rw [Tryz.params3] at ht
 have hm:=Array.mem_of_getElem? ht
 simp only [List.mem_toArray,zzA86,V2,U7] at hm
 rcases hm with rfl
 ·exact (show zO8.wantsStandIn 9=false by kernel_rfl)
theorem numberReads_card:Rows.NumberReadsCardSaid:=
 Claim7.holds_tied_plain_at .later [] _ _ _ _ qQ (fun _ h=>by cases h) qY (fun _ h=>by cases h) numberReads_row_tie rfl ⟨rfl,rfl⟩ (by kernel_rfl) rfl oS qZ
#print axioms numberReads_card
end Go.Proofs.YtkiejangmhhofaaGreatDoor
