/-
 NumberNear: a decimal that is read as a finite number lies nowhere beyond the middle between it and its neighbours; no condition (a part of the proof).
-/
import Derived.Test.YtbdaebagmmmijaaGreatDoorN1x07
import Derived.Test.YtbdaebagmmmijaaGreatDoorN1x18
set_option maxRecDepth 1000000
open Go.Proofs.Tryz renaming prog->zO8
open Go.IntKind renaming i64->iI,u64->uI,u8->uB
noncomputable section
namespace Go.Proofs.YtbdaebagmmmijaaGreatDoor
open Go.ChangeShapes Go.WideShapes Go.ChangeAt Go.RowKit
theorem fU (H:Type) (enc:TypeId×Value->H) (W:World) (base:Nat) (args:Array Value) (ds gs:List (DataW H)) (before:List MemPlace)
  (hval:∀ (j:Nat) t v,Tryz.f3.params[j]? =some t->args[j]? =some v->Value.okWide zO8 W .any base t v)
  (hW:DataW.Whole enc zO8 Tryz.f3.params.toList Rows.numberNearSpec.vars false W args.toList ds gs before) (hG:J0.I W):
  Calls zO8 3 args W fun e W'=>∃ v,e= .returned v∧Rows.numberNearSpec.post enc zO8 Tryz.f3 false true false false W args v W':=by
 have hW':=hW
 obtain⟨p,q,hA0,hV,rfl,hfz,hnd⟩:=hW
 have hA:DataW.TrodAll enc zO8 W 0 (fun _=>true) true Tryz.f3.params.toList args.toList ds p:=hA0
 rw [Tryz.params3] at hA hval
 obtain⟨v0,vs0,d0,ds0,p0,q0,hargs,rfl,rfl,h0,r0⟩:=trodAll_cons hA
 obtain⟨v1,vs1,d1,ds1,p1,q1,rfl,rfl,rfl,h1,r1⟩:=trodAll_cons r0
 obtain⟨rfl,rfl,rfl⟩:=trodAll_nil r1
 obtain rfl:args= #[v0,v1] :=by cases args; simp_all
 obtain⟨rfl,rfl⟩:=trodVars_none hV
 obtain⟨F0,n0,o0,c0,_,q0,_⟩:=r1h (P:=zO8) d2j e2s (fun x:Int=>0<=x∧x < 256) Tryz.underlying22 (show zO8.cellsOf 5=1 by kernel_rfl) (hval 0 _ v0 rfl rfl) h0 c1k
 obtain⟨a1,rfl,rfl,rfl,w1⟩:=open_int Tryz.underlying3 (hval 1 _ v1 rfl rfl) h1
 clear hA0
 simp only [List.append_nil] at hW'
 have hsem:=(wV (n:=n0) (o:=o0) f2f q0 (f1r w1)).2 W [v0, .int .i64 a1] hG (.cons c0 (.cons ⟨rfl,rfl⟩ .nil))
 have hT:∀ t∈Tryz.f3.params.toList,t < zO8.types.size:=by
  rw [Tryz.params3]
  intro t ht
  simp only [zzA83,S5,S0] at ht
  rcases ht with rfl | rfl <;> exact G1 (by kernel_rfl)
 refine hsem.mono fun e' W' ⟨us',he',hb,hc,_⟩=> ?_
 obtain⟨y,ys,rfl,⟨rfl,_⟩,hnil⟩:=hc.cons_inv
 obtain rfl:=hnil.nil_inv
 subst he'
 exact⟨_,rfl,b0w s2d p0v hT rfl hW' (fun _ _ _=>trodAll_cons_mk (shut_bool Tryz.underlying4 _) trodAll_mk0) rfl rfl hb (ok_one (by kernel_rfl) rfl (okWide_bool_mk Tryz.underlying4 _))⟩
theorem tZ (os:Os):laidMet zO8 Rows.numberNearRow.laid ((uU os).forCall (fun _ _=>0) ⟨#[],#[.slice none 0 0, .int .i64 0],[]⟩).memory:=
 laidMet_of_run' 8 (by kernel_rfl) (by kernel_rfl)
theorem pS (os:Os) {H:Type} (enc:TypeId×Value->H):∃ places,DataW.whole enc zO8 ((uU os).forCall (fun _ _=>0) ⟨#[],#[.slice none 0 0, .int .i64 0],[]⟩).memory Tryz.f3.params.toList Rows.numberNearSpec.vars false
  #[Value.slice none 0 0, .int .i64 0].toList 8=some ([.nil, .lit (.int .i64 0)],[],places):=
 ⟨[],by kernel_rfl⟩
theorem lW (os:Os) (started:os.Started) (H:Type) (enc:TypeId×Value->H) (F:Stop.Interp):
  ReturnsInHanded {} Tryz.checked os 3 .any ((OpenSpec.ofChange Rows.numberNearSpec).preRow enc zO8 Tryz.f3 Rows.numberNearRow.domain false Rows.numberNearRow.laid) (((OpenSpec.ofChange Rows.numberNearSpec).at F).post enc zO8 Tryz.f3 false true false false):=by
 obtain⟨places,hx⟩:=pS os enc
 refine returnsInHanded_of_row (C:=Tryz.checked) (s:=OpenSpec.ofChange Rows.numberNearSpec) own started (by kernel_rfl) Tryz.func3
  (witness_row_at (enc:=enc) (C:=Tryz.checked) false (uU os) #[.slice none 0 0, .int .i64 0] rfl (by kernel_rfl) (by kernel_rfl) (by kernel_rfl)
   (OpenSpec.preRow_of_cond 8 hx (by kernel_rfl) (fun k hk=>by cases hk) (by kernel_rfl) (tZ os))) ?_
 intro W base args ds gs before hval hW _ _ _ hL hS _
 exact fU H enc W base args ds gs before hval hW (n0f hL hS)
theorem e0q:(Rows.numberNearRow.wf (OpenSpec.ofChange (OpenSpec.ofChange Rows.numberNearSpec).bare))=true:=by kernel_rfl
theorem e0b:(laidOutB Tryz.pinned.checked.prog)=true:=by kernel_rfl
theorem b0n:(mapsRowed Tryz.pinned.checked.prog)=true:=by kernel_rfl
theorem f0i:(Tryz.f3.params.all (Tryz.pinned.checked.prog.readableRec ·))=true:=by kernel_rfl
theorem c0y:(namedTie Tryz.pinned.checked.prog Rows.numberNearRow.named (OpenSpec.ofChange Rows.numberNearSpec).bare.vars)=true:=by kernel_rfl
theorem e0a:((Rows.numberNearRow.stops==[]))=true:=by kernel_rfl
theorem e0y:((Tryz.pinned.checked.prog.stops==[]))=true:=by kernel_rfl
theorem b0m:((Rows.numberNearRow.knobs==[]))=true:=by kernel_rfl
theorem f0v:((Tryz.pinned.checked.prog.stopKnobs==[]))=true:=by kernel_rfl
theorem e0s:((Rows.numberNearRow.inPlace==Tryz.pinned.checked.prog.inPlace 3))=true:=by kernel_rfl
theorem wK:((Rows.numberNearRow.unfollowed==Tryz.pinned.checked.prog.unfollowed 3))=true:=by kernel_rfl
theorem xO:((Rows.numberNearRow.recurses==Tryz.pinned.checked.prog.recurses 3))=true:=by kernel_rfl
theorem wC:((Rows.numberNearRow.named==Tryz.pinned.checked.prog.varsNamed 3))=true:=by kernel_rfl
theorem wJ:((Rows.numberNearRow.maps==(Tryz.f3.params.toList++(OpenSpec.ofChange Rows.numberNearSpec).bare.plain.varTypes Tryz.pinned.checked.prog).any (Tryz.pinned.checked.prog.mapsRec ·)))=true:=by kernel_rfl
theorem xG:((Rows.numberNearRow.ifaces==(Tryz.f3.params.toList++(OpenSpec.ofChange Rows.numberNearSpec).bare.plain.varTypes Tryz.pinned.checked.prog).any (Tryz.pinned.checked.prog.ifacesRec ·)))=true:=by kernel_rfl
theorem wM:((Rows.numberNearRow.mapsOut==Tryz.pinned.checked.prog.mapsAmong Tryz.f3.resultTypes.toList))=true:=by kernel_rfl
theorem wB:((Rows.numberNearRow.loops==(Tryz.f3.params.toList++(OpenSpec.ofChange Rows.numberNearSpec).bare.plain.varTypes Tryz.pinned.checked.prog).any (Tryz.pinned.checked.prog.loopsFrom ·)))=true:=by kernel_rfl
theorem xF:((Rows.numberNearRow.wideKeys==(Tryz.f3.params.toList++(OpenSpec.ofChange Rows.numberNearSpec).bare.plain.varTypes Tryz.pinned.checked.prog++Tryz.f3.resultTypes.toList).any (Tryz.pinned.checked.prog.wideKeysFrom ·)))=true:=by kernel_rfl
theorem wX:((OpenSpec.ofChange Rows.numberNearSpec).bare.vars.all (Tryz.pinned.checked.prog.varReadable ·))=true:=by kernel_rfl
theorem xK:(Tryz.f3.resultTypes.all (fun t=>Tryz.pinned.checked.prog.readableRec t && decide (t < Tryz.pinned.checked.prog.types.size)))=true:=by kernel_rfl
theorem wH:((Rows.numberNearRow.ifacesOut==Tryz.f3.resultTypes.toList.any (Tryz.pinned.checked.prog.ifacesRec ·)))=true:=by kernel_rfl
theorem xW:((Rows.numberNearRow.loopsOut==Tryz.f3.resultTypes.toList.any (Tryz.pinned.checked.prog.loopsFrom ·)))=true:=by kernel_rfl
theorem wF:((Rows.numberNearRow.plainKeys==Tryz.pinned.checked.prog.plainKeys))=true:=by kernel_rfl
theorem yA:(Rows.numberNearRow.shortTexts.isNone)=true:=by kernel_rfl
theorem wZ:(Tryz.pinned.checked.prog.stopsHeard)=true:=by kernel_rfl
theorem wW:(Tryz.pinned.checked.prog.mayEnter)=true:=by kernel_rfl
theorem xC:((Rows.numberNearRow.lifted==Tryz.pinned.checked.prog.liftsFinal))=true:=by kernel_rfl
theorem wN:((Tryz.pinned.checked.prog.make==some Rows.numberNearRow.make))=true:=by kernel_rfl
theorem wQ:((Rows.numberNearRow.kinds==(if Rows.numberNearRow.domain.isEmpty then [] else Tryz.f3.params.toList.map fun t=>match Tryz.pinned.checked.prog.underlying t with | some (.int k)=>some k | _=>none)))=true:=by kernel_rfl
theorem xQ:((Rows.numberNearRow.pinned==Rows.numberNearRow.pinnedBy))=true:=by kernel_rfl
theorem wR:((Rows.numberNearRow.veiled==(Tryz.f3.params.toList++(OpenSpec.ofChange Rows.numberNearSpec).bare.plain.varTypes Tryz.pinned.checked.prog++Tryz.f3.resultTypes.toList).any (Tryz.pinned.checked.prog.veiledRec ·)))=true:=by kernel_rfl
theorem xT:(Rows.numberNearRow.veiledFits Tryz.pinned.checked.prog Tryz.f3.params.toList (Tryz.f3.params.toList++(OpenSpec.ofChange Rows.numberNearSpec).bare.plain.varTypes Tryz.pinned.checked.prog++Tryz.f3.resultTypes.toList))=true:=by kernel_rfl
theorem A2 {a b:Bool} (h1:a=true) (h2:b=true):(a && b)=true:=by rw [h1,h2]; rfl
theorem pO:joinedFacts Tryz.pinned.checked.prog 3 Tryz.f3 (OpenSpec.ofChange Rows.numberNearSpec).bare Rows.numberNearRow=true:=by
 unfold joinedFacts
 exact A2 (A2 (A2 (A2 (A2 (A2 (A2 (A2 (A2 (A2 (A2 (A2 (A2 (A2 (A2 (A2 (A2 (A2 (A2 (A2 (A2 (A2 (A2 (A2 (A2 (A2 (A2 (A2 (A2 (A2 (A2 e0q e0b) b0n) f0i) c0y) e0a) e0y) b0m) f0v) e0s) wK) xO) wC) wJ) xG) wM) wB) xF) wX) xK) wH) xW) wF) yA) wZ) wW) xC) wN) wQ) xQ) wR) xT
theorem qA:true=Tryz.pinned.checked.prog.looks [] :=by kernel_rfl
theorem uO:false=Rows.numberNearRow.goesBy Tryz.pinned.checked.prog:=by kernel_rfl
theorem sT:Rows.numberNearRow.wfByText (OpenSpec.ofChange Rows.numberNearSpec)=true:=by kernel_rfl
theorem b0k:Tryz.pinned.checked.prog.funcNamed Rows.numberNearRow.func=some 3:=by kernel_rfl
theorem rL:Rows.NumberNearSaid:=
 OpenClaim.holds_of_cond 3 Tryz.f3 rfl rfl rfl rfl rfl rfl rfl ⟨rfl,rfl,rfl,rfl,rfl⟩ rfl rfl rfl rfl rfl b0k Tryz.func3 pO
  (G1 (by kernel_rfl)) (by unfold Func.isWrapper; first | (rw [i6 (by decide+kernel)]; kernel_rfl) | (rw [a8 (by decide+kernel)]; exact⟨rfl,rfl⟩))
  (fun os started H enc _ F=>by rw [OpenClaim.pre_eq_preRow]; exact lW os started H enc F)
theorem pT (f:FuncId) (fn:Func) (hf:Tryz.pinned.checked.prog.funcNamed "quadrille/quadrillelaw05.NumberNear" =some f) (hfn:Tryz.pinned.checked.prog.funcs[f]? =some fn):
  true=Tryz.pinned.checked.prog.looks [] ∧∀ (j:Nat) t,fn.params[j]? =some t->Tryz.pinned.checked.prog.wantsStandIn t=false:=by
 obtain rfl:f=3:=J8 ((show zO8.funcNamed "quadrille/quadrillelaw05.NumberNear" =some 3 by kernel_rfl).symm.trans hf) |>.symm
 obtain rfl:fn=Tryz.f3:=(J8 (Tryz.func3.symm.trans hfn)).symm
 refine⟨qA,fun j t ht=> ?_⟩
 rw [Tryz.params3] at ht
 have hm:=Array.mem_of_getElem? ht
 simp only [List.mem_toArray,zzA83,S5,S0] at hm
 rcases hm with rfl | rfl
 ·exact (show zO8.wantsStandIn 22=false by kernel_rfl)
 ·exact (show zO8.wantsStandIn 3=false by kernel_rfl)
theorem numberNear_card:Rows.NumberNearCardSaid:=
 Claim7.holds_tied_plain_at .later [] _ _ _ _ rL (fun _ h=>by cases h) sT (fun _ h=>by cases h) numberNear_row_tie rfl ⟨rfl,rfl⟩ (by kernel_rfl) rfl pT uO
#print axioms numberNear_card
end Go.Proofs.YtbdaebagmmmijaaGreatDoor
