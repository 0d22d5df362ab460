/-
 NumberBack: the whole text, the short text, the hexadecimal text and seventeen figures of any number are read as just that number; nine figures of a single are read as that single. No condition.
-/
import Derived.Test.YtbdaebagmmmijaaGreatDoorB1x17
set_option maxRecDepth 1000000
open Go.Value renaming int->zO3
open Go.Proofs.Tryz renaming prog->zO7
open Go.IntKind renaming i64->iI,u64->uI,u32->uJ
noncomputable section
namespace Go.Proofs.YtbdaebagmmmijaaGreatDoor
open Go.ChangeShapes Go.WideShapes Go.ChangeAt Go.RowKit
theorem gM (H:Type) (enc:TypeId×Value->H) (W:World) (base:Nat) (args:Array Value) (ds gs:List (DataW H)) (before:List MemPlace)
  (hval:∀ (j:Nat) t v,Tryz.f5.params[j]? =some t->args[j]? =some v->Value.okWide zO7 W .any base t v)
  (hW:DataW.Whole enc zO7 Tryz.f5.params.toList Rows.numberBackSpec.vars false W args.toList ds gs before) (hG:J0.I W):
  Calls zO7 5 args W fun e W'=>∃ v,e= .returned v∧Rows.numberBackSpec.post enc zO7 Tryz.f5 false true false false W args v W':=by
 have hW':=hW
 obtain⟨p,q,hA0,hV,rfl,hfz,hnd⟩:=hW
 have hA:DataW.TrodAll enc zO7 W 0 (fun _=>true) true Tryz.f5.params.toList args.toList ds p:=hA0
 rw [Tryz.params5] at hA hval
 obtain⟨v0,vs0,d0,ds0,p0,q0,hargs,rfl,rfl,h0,r0⟩:=trodAll_cons hA
 obtain⟨rfl,rfl,rfl⟩:=trodAll_nil r0
 obtain rfl:args= #[v0] :=by cases args; simp_all
 obtain⟨rfl,rfl⟩:=trodVars_none hV
 obtain⟨a0,rfl,rfl,rfl,w0⟩:=open_int Tryz.underlying39 (hval 0 _ v0 rfl rfl) h0
 clear hA0
 simp only [s0v] at hW'
 have he:Enters zO7 5:=enters_of Tryz.func5 (by kernel_rfl) (c:=_) rfl
 refine (i0n (wE a0 w0) he W hG).mono fun e' W' ⟨he',hb⟩=> ?_
 subst he'
 exact⟨_,rfl,d0g hW' (fun _ _ _=>trodAll_cons_mk (shut_bool Tryz.underlying4 _) trodAll_mk0)
  (fun _=>trodAll_cons_mk (shut_int Tryz.underlying39 w0) trodAll_mk0) (fun _=>rfl) hb (ok_one (by kernel_rfl) rfl (okWide_bool_mk Tryz.underlying4 _))⟩
theorem sC (os:Os):laidMet zO7 Rows.numberBackRow.laid ((vX os).forCall (fun _ _=>0) ⟨#[],#[.int .u64 0],[]⟩).memory:=
 laidMet_of_run' 8 (by kernel_rfl) (by kernel_rfl)
theorem qF (os:Os) {H:Type} (enc:TypeId×Value->H):∃ places,DataW.whole enc zO7 ((vX os).forCall (fun _ _=>0) ⟨#[],#[.int .u64 0],[]⟩).memory Tryz.f5.params.toList Rows.numberBackSpec.vars false
  #[zO3 .u64 0].toList 8=some ([.lit (.int .u64 0)],[],places):=
 ⟨[],by kernel_rfl⟩
theorem nF (os:Os) (started:os.Started) (H:Type) (enc:TypeId×Value->H) (F:Stop.Interp):
  ReturnsInHanded {} Tryz.checked os 5 .any ((OpenSpec.ofChange Rows.numberBackSpec).preRow enc zO7 Tryz.f5 Rows.numberBackRow.domain false Rows.numberBackRow.laid) (((OpenSpec.ofChange Rows.numberBackSpec).at F).post enc zO7 Tryz.f5 false true false false):=by
 obtain⟨places,hx⟩:=qF os enc
 refine returnsInHanded_of_row (C:=Tryz.checked) (s:=OpenSpec.ofChange Rows.numberBackSpec) own started (by kernel_rfl) Tryz.func5
  (witness_row_at (enc:=enc) (C:=Tryz.checked) false (vX os) #[.int .u64 0] rfl (by kernel_rfl) (by kernel_rfl) (by kernel_rfl)
   (OpenSpec.preRow_of_cond 8 hx (by kernel_rfl) (fun k hk=>by cases hk) (by kernel_rfl) (sC os))) ?_
 intro W base args ds gs before hval hW _ _ _ hL hS _
 exact gM H enc W base args ds gs before hval hW (r0d hL hS)
theorem f0d:(Rows.numberBackRow.wf (OpenSpec.ofChange (OpenSpec.ofChange Rows.numberBackSpec).bare))=true:=by kernel_rfl
theorem f0e:(laidOutB Tryz.pinned.checked.prog)=true:=by kernel_rfl
theorem f0w:(mapsRowed Tryz.pinned.checked.prog)=true:=by kernel_rfl
theorem e0g:(Tryz.f5.params.all (Tryz.pinned.checked.prog.readableRec ·))=true:=by kernel_rfl
theorem f0p:(namedTie Tryz.pinned.checked.prog Rows.numberBackRow.named (OpenSpec.ofChange Rows.numberBackSpec).bare.vars)=true:=by kernel_rfl
theorem d0m:((Rows.numberBackRow.stops==[]))=true:=by kernel_rfl
theorem e0m:((Tryz.pinned.checked.prog.stops==[]))=true:=by kernel_rfl
theorem g0p:((Rows.numberBackRow.knobs==[]))=true:=by kernel_rfl
theorem d0w:((Tryz.pinned.checked.prog.stopKnobs==[]))=true:=by kernel_rfl
theorem e0r:((Rows.numberBackRow.inPlace==Tryz.pinned.checked.prog.inPlace 5))=true:=by kernel_rfl
theorem xN:((Rows.numberBackRow.unfollowed==Tryz.pinned.checked.prog.unfollowed 5))=true:=by kernel_rfl
theorem xA:((Rows.numberBackRow.recurses==Tryz.pinned.checked.prog.recurses 5))=true:=by kernel_rfl
theorem wQ:((Rows.numberBackRow.named==Tryz.pinned.checked.prog.varsNamed 5))=true:=by kernel_rfl
theorem yD:((Rows.numberBackRow.maps==(Tryz.f5.params.toList++(OpenSpec.ofChange Rows.numberBackSpec).bare.plain.varTypes Tryz.pinned.checked.prog).any (Tryz.pinned.checked.prog.mapsRec ·)))=true:=by kernel_rfl
theorem xG:((Rows.numberBackRow.ifaces==(Tryz.f5.params.toList++(OpenSpec.ofChange Rows.numberBackSpec).bare.plain.varTypes Tryz.pinned.checked.prog).any (Tryz.pinned.checked.prog.ifacesRec ·)))=true:=by kernel_rfl
theorem wR:((Rows.numberBackRow.mapsOut==Tryz.pinned.checked.prog.mapsAmong Tryz.f5.resultTypes.toList))=true:=by kernel_rfl
theorem xH:((Rows.numberBackRow.loops==(Tryz.f5.params.toList++(OpenSpec.ofChange Rows.numberBackSpec).bare.plain.varTypes Tryz.pinned.checked.prog).any (Tryz.pinned.checked.prog.loopsFrom ·)))=true:=by kernel_rfl
theorem xE:((Rows.numberBackRow.wideKeys==(Tryz.f5.params.toList++(OpenSpec.ofChange Rows.numberBackSpec).bare.plain.varTypes Tryz.pinned.checked.prog++Tryz.f5.resultTypes.toList).any (Tryz.pinned.checked.prog.wideKeysFrom ·)))=true:=by kernel_rfl
theorem xM:((OpenSpec.ofChange Rows.numberBackSpec).bare.vars.all (Tryz.pinned.checked.prog.varReadable ·))=true:=by kernel_rfl
theorem yB:(Tryz.f5.resultTypes.all (fun t=>Tryz.pinned.checked.prog.readableRec t && decide (t < Tryz.pinned.checked.prog.types.size)))=true:=by kernel_rfl
theorem wW:((Rows.numberBackRow.ifacesOut==Tryz.f5.resultTypes.toList.any (Tryz.pinned.checked.prog.ifacesRec ·)))=true:=by kernel_rfl
theorem xF:((Rows.numberBackRow.loopsOut==Tryz.f5.resultTypes.toList.any (Tryz.pinned.checked.prog.loopsFrom ·)))=true:=by kernel_rfl
theorem xB:((Rows.numberBackRow.plainKeys==Tryz.pinned.checked.prog.plainKeys))=true:=by kernel_rfl
theorem wT:(Rows.numberBackRow.shortTexts.isNone)=true:=by kernel_rfl
theorem xS:(Tryz.pinned.checked.prog.stopsHeard)=true:=by kernel_rfl
theorem wV:(Tryz.pinned.checked.prog.mayEnter)=true:=by kernel_rfl
theorem xZ:((Rows.numberBackRow.lifted==Tryz.pinned.checked.prog.liftsFinal))=true:=by kernel_rfl
theorem xQ:((Tryz.pinned.checked.prog.make==some Rows.numberBackRow.make))=true:=by kernel_rfl
theorem xK:((Rows.numberBackRow.kinds==(if Rows.numberBackRow.domain.isEmpty then [] else Tryz.f5.params.toList.map fun t=>match Tryz.pinned.checked.prog.underlying t with | some (.int k)=>some k | _=>none)))=true:=by kernel_rfl
theorem wM:((Rows.numberBackRow.pinned==Rows.numberBackRow.pinnedBy))=true:=by kernel_rfl
theorem xT:((Rows.numberBackRow.veiled==(Tryz.f5.params.toList++(OpenSpec.ofChange Rows.numberBackSpec).bare.plain.varTypes Tryz.pinned.checked.prog++Tryz.f5.resultTypes.toList).any (Tryz.pinned.checked.prog.veiledRec ·)))=true:=by kernel_rfl
theorem xJ:(Rows.numberBackRow.veiledFits Tryz.pinned.checked.prog Tryz.f5.params.toList (Tryz.f5.params.toList++(OpenSpec.ofChange Rows.numberBackSpec).bare.plain.varTypes Tryz.pinned.checked.prog++Tryz.f5.resultTypes.toList))=true:=by kernel_rfl
theorem A6 {a b:Bool} (h1:a=true) (h2:b=true):(a && b)=true:=by rw [h1,h2]; rfl
theorem qB:joinedFacts Tryz.pinned.checked.prog 5 Tryz.f5 (OpenSpec.ofChange Rows.numberBackSpec).bare Rows.numberBackRow=true:=by
 unfold joinedFacts
 exact A6 (A6 (A6 (A6 (A6 (A6 (A6 (A6 (A6 (A6 (A6 (A6 (A6 (A6 (A6 (A6 (A6 (A6 (A6 (A6 (A6 (A6 (A6 (A6 (A6 (A6 (A6 (A6 (A6 (A6 (A6 f0d f0e) f0w) e0g) f0p) d0m) e0m) g0p) d0w) e0r) xN) xA) wQ) yD) xG) wR) xH) xE) xM) yB) wW) xF) xB) wT) xS) wV) xZ) xQ) xK) wM) xT) xJ
theorem pW:true=Tryz.pinned.checked.prog.looks [] :=by kernel_rfl
theorem rT:false=Rows.numberBackRow.goesBy Tryz.pinned.checked.prog:=by kernel_rfl
theorem vR:Rows.numberBackRow.wfByText (OpenSpec.ofChange Rows.numberBackSpec)=true:=by kernel_rfl
theorem d0v:Tryz.pinned.checked.prog.funcNamed Rows.numberBackRow.func=some 5:=by kernel_rfl
theorem tX:Rows.NumberBackSaid:=
 OpenClaim.holds_of_cond 5 Tryz.f5 rfl rfl rfl rfl rfl rfl rfl ⟨rfl,rfl,rfl,rfl,rfl⟩ rfl rfl rfl rfl rfl d0v Tryz.func5 qB
  (H8 (by kernel_rfl)) (by unfold Func.isWrapper; first | (rw [b9 (by decide+kernel)]; kernel_rfl) | (rw [a6 (by decide+kernel)]; exact⟨rfl,rfl⟩))
  (fun os started H enc _ F=>by rw [OpenClaim.pre_eq_preRow]; exact nF os started H enc F)
theorem pY (f:FuncId) (fn:Func) (hf:Tryz.pinned.checked.prog.funcNamed "quadrille/quadrillelaw05.NumberBack" =some f) (hfn:Tryz.pinned.checked.prog.funcs[f]? =some fn):
  true=Tryz.pinned.checked.prog.looks [] ∧∀ (j:Nat) t,fn.params[j]? =some t->Tryz.pinned.checked.prog.wantsStandIn t=false:=by
 obtain rfl:f=5:=T7 ((show zO7.funcNamed "quadrille/quadrillelaw05.NumberBack" =some 5 by kernel_rfl).symm.trans hf) |>.symm
 obtain rfl:fn=Tryz.f5:=(T7 (Tryz.func5.symm.trans hfn)).symm
 refine⟨pW,fun j t ht=> ?_⟩
 rw [Tryz.params5] at ht
 have hm:=Array.mem_of_getElem? ht
 simp only [List.mem_toArray,zzA84,T3,V5] at hm
 rcases hm with rfl
 ·exact (show zO7.wantsStandIn 39=false by kernel_rfl)
theorem numberBack_card:Rows.NumberBackCardSaid:=
 Claim7.holds_tied_plain_at .later [] _ _ _ _ tX (fun _ h=>by cases h) vR (fun _ h=>by cases h) numberBack_row_tie rfl ⟨rfl,rfl⟩ (by kernel_rfl) rfl pY rT
#print axioms numberBack_card
end Go.Proofs.YtbdaebagmmmijaaGreatDoor
