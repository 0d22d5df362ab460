/-
 LexQuotes: a quoted text is one word, which says it, unless it is too long or no right UTF-8; cut off it ends too early; texts of ordinary size (a part of the proof).
-/
import Derived.Test.YtdgfhijnconaoaaGreatDoorQ1x03
import Derived.Test.YtdgfhijnconaoaaGreatDoorQ1x04
import Derived.Test.YtdgfhijnconaoaaGreatDoorQ1x09
set_option maxRecDepth 1000000
namespace Go.Proofs.YtdgfhijnconaoaaGreatDoor
open Go.ChangeShapes Go.WideShapes Go.ChangeAt Go.RowKit
theorem bulk_part {H:Type} {d:DataW H} {l:List (DataW H)} (h:d∈l):Rows.uptoBulk d≤Rows.uptoBulkAll l:=by
 induction l with
 | nil=>cases h
 | cons x r ih=>
  simp only [Rows.uptoBulkAll]
  cases List.mem_cons.1 h with
  | inl e=>subst e; omega
  | inr e=>have:=ih e; omega
theorem bulk_str {H:Type} {s:List UInt8} {l:List (DataW H)} (h:Rows.uptoSmall H l=true) (hm:DataW.lit (.string s)∈l):s.length≤1048576:=by
 have h:=of_decide_eq_true h
 have:=bulk_part (H:=H) hm
 simp only [Rows.uptoBulk] at this
 omega
theorem int_in {a:Int} (w:(Lit.int .i64 a).wf=true): -9223372036854775808≤a∧a≤9223372036854775807:=by
 simp only [Lit.wf,Bool.and_eq_true,decide_eq_true_eq] at w
 have h1:IntKind.i64.min≤a:=w.1
 have h2:a≤IntKind.i64.max:=w.2
 have e1:IntKind.i64.min= -9223372036854775808:=by decide
 have e2:IntKind.i64.max=9223372036854775807:=by decide
 omega
theorem lexQuotes_fin (s:List UInt8) (hs:s.length≤1048576) (a:Int) (w:(Lit.int .i64 a).wf=true):Ev.Pure Tryz.prog J0 6 [.string ⟨⟨s⟩⟩, .int .i64 a] (.bool true):=lexQuotes_pure known11 hs (int_in w)
theorem lexQuotes_contract (H:Type) (enc:TypeId×Value→H) (W:World) (base:Nat) (args:Array Value) (ds gs:List (DataW H)) (before:List MemPlace)
  (hval:∀ (j:Nat) t v,Tryz.f6.params[j]? =some t→args[j]? =some v→Value.okWide Tryz.prog W .any base t v)
  (hW:DataW.Whole enc Tryz.prog Tryz.f6.params.toList Rows.lexQuotesSpec.vars false W args.toList ds gs before) (hbk:Rows.uptoSmall H (ds++gs)=true) (hG:J0.I W):
  Calls Tryz.prog 6 args W fun e W'=>∃ v,e= .returned v∧Rows.lexQuotesSpec.post enc Tryz.prog Tryz.f6 false true false false W args v W':=by
 have hW':=hW
 obtain⟨p,q,hA0,hV,rfl,hfz,hnd⟩:=hW
 have hA:DataW.TrodAll enc Tryz.prog W 0 (fun _=>true) true Tryz.f6.params.toList args.toList ds p:=hA0
 rw [Tryz.params6] at hA hval
 obtain⟨v0,vs0,d0,ds0,p0,q0,hargs,rfl,rfl,h0,r0⟩:=trodAll_cons hA
 obtain⟨v1,vs1,d1,ds1,p1,q1,rfl,rfl,rfl,h1,r1⟩:=trodAll_cons r0
 obtain⟨rfl,rfl,rfl⟩:=trodAll_nil r1
 obtain rfl:args= #[v0,v1] :=by cases args; simp_all
 obtain⟨rfl,rfl⟩:=trodVars_none hV
 obtain⟨s0,rfl,rfl,rfl,w0⟩:=Go.ChangeMaps.open_string Tryz.underlying9 (hval 0 _ v0 rfl rfl) h0
 obtain⟨⟨s0⟩⟩:=s0
 obtain⟨a1,rfl,rfl,rfl,w1⟩:=open_int Tryz.underlying3 (hval 1 _ v1 rfl rfl) h1
 have z0:s0.length≤1048576:=bulk_str hbk (by simp)
 clear hA0
 simp only [List.append_nil] at hW'
 have he:Enters Tryz.prog 6:=enters_of Tryz.func6 (by kernel_rfl) (c:=_) rfl
 refine (Pure.calls (lexQuotes_fin s0 z0 a1 w1) he W hG).mono fun e' W' ⟨he',hb⟩=> ?_
 subst he'
 exact⟨_,rfl,post_of_below hW' (fun _ _ _=>trodAll_cons_mk (shut_bool Tryz.underlying4 _) trodAll_mk0)
  (fun _=>trodAll_cons_mk (Go.ChangeMaps.shut_string Tryz.underlying9 w0) (trodAll_cons_mk (shut_int Tryz.underlying3 w1) trodAll_mk0)) (fun _=>rfl) hb (ok_one (by kernel_rfl) rfl (okWide_bool_mk Tryz.underlying4 _))⟩
theorem lexQuotes_laid (os:Os):laidMet Tryz.prog Rows.lexQuotesUptoRow.laid ((laidWorld os).forCall (fun _ _=>0) ⟨#[],#[.string ⟨#[]⟩, .int .i64 0],[]⟩).memory:=
 laidMet_of_run' 8 (by kernel_rfl) (by kernel_rfl)
theorem lexQuotes_reads (os:Os) {H:Type} (enc:TypeId×Value→H):∃ places,DataW.whole enc Tryz.prog ((laidWorld os).forCall (fun _ _=>0) ⟨#[],#[.string ⟨#[]⟩, .int .i64 0],[]⟩).memory Tryz.f6.params.toList Rows.lexQuotesSpec.vars false
  #[Value.string ⟨#[]⟩, .int .i64 0].toList 8=some ([.lit (.string []), .lit (.int .i64 0)],[],places):=
 ⟨[],by kernel_rfl⟩
theorem lexQuotes_lifted (os:Os) (started:os.Started) (H:Type) (enc:TypeId×Value→H) (F:Stop.Interp):
  ReturnsInHanded {} Tryz.checked os 6 .any ((Rows.OpenSpec.upto Rows.lexQuotesSpec).preRow enc Tryz.prog Tryz.f6 Rows.lexQuotesUptoRow.domain false Rows.lexQuotesUptoRow.laid) (((Rows.OpenSpec.upto Rows.lexQuotesSpec).at F).post enc Tryz.prog Tryz.f6 false true false false):=by
 obtain⟨places,hx⟩:=lexQuotes_reads os enc
 refine returnsInHanded_of_row (C:=Tryz.checked) (s:=Rows.OpenSpec.upto Rows.lexQuotesSpec) own started (by kernel_rfl) Tryz.func6
  (witness_row_at (enc:=enc) (C:=Tryz.checked) false (laidWorld os) #[.string ⟨#[]⟩, .int .i64 0] rfl (by kernel_rfl) (by kernel_rfl) (by kernel_rfl)
   (OpenSpec.preRow_of_cond 8 hx (by kernel_rfl) (fun k hk=>by cases hk; kernel_rfl) (by kernel_rfl) (lexQuotes_laid os))) ?_
 intro W base args ds gs before hval hW _ hcond _ hL hS _
 exact lexQuotes_contract H enc W base args ds gs before hval hW (hcond _ rfl) (inv_of_laid hL hS)
theorem lexQuotes_j0:(Rows.lexQuotesUptoRow.wf (OpenSpec.ofChange (Rows.OpenSpec.upto Rows.lexQuotesSpec).bare))=true:=by kernel_rfl
theorem lexQuotes_j1:(laidOutB Tryz.pinned.checked.prog)=true:=by kernel_rfl
theorem lexQuotes_j2:(mapsRowed Tryz.pinned.checked.prog)=true:=by kernel_rfl
theorem lexQuotes_j3:(Tryz.f6.params.all (Tryz.pinned.checked.prog.readableRec ·))=true:=by kernel_rfl
theorem lexQuotes_j4:(namedTie Tryz.pinned.checked.prog Rows.lexQuotesUptoRow.named (Rows.OpenSpec.upto Rows.lexQuotesSpec).bare.vars)=true:=by kernel_rfl
theorem lexQuotes_j5:((Rows.lexQuotesUptoRow.stops==[]))=true:=by kernel_rfl
theorem lexQuotes_j6:((Tryz.pinned.checked.prog.stops==[]))=true:=by kernel_rfl
theorem lexQuotes_j7:((Rows.lexQuotesUptoRow.knobs==[]))=true:=by kernel_rfl
theorem lexQuotes_j8:((Tryz.pinned.checked.prog.stopKnobs==[]))=true:=by kernel_rfl
theorem lexQuotes_j9:((Rows.lexQuotesUptoRow.inPlace==Tryz.pinned.checked.prog.inPlace 6))=true:=by kernel_rfl
theorem lexQuotes_j10:((Rows.lexQuotesUptoRow.unfollowed==Tryz.pinned.checked.prog.unfollowed 6))=true:=by kernel_rfl
theorem lexQuotes_j11:((Rows.lexQuotesUptoRow.recurses==Tryz.pinned.checked.prog.recurses 6))=true:=by kernel_rfl
theorem lexQuotes_j12:((Rows.lexQuotesUptoRow.named==Tryz.pinned.checked.prog.varsNamed 6))=true:=by kernel_rfl
theorem lexQuotes_j13:((Rows.lexQuotesUptoRow.maps==(Tryz.f6.params.toList++(Rows.OpenSpec.upto Rows.lexQuotesSpec).bare.plain.varTypes Tryz.pinned.checked.prog).any (Tryz.pinned.checked.prog.mapsRec ·)))=true:=by kernel_rfl
theorem lexQuotes_j14:((Rows.lexQuotesUptoRow.ifaces==(Tryz.f6.params.toList++(Rows.OpenSpec.upto Rows.lexQuotesSpec).bare.plain.varTypes Tryz.pinned.checked.prog).any (Tryz.pinned.checked.prog.ifacesRec ·)))=true:=by kernel_rfl
theorem lexQuotes_j15:((Rows.lexQuotesUptoRow.mapsOut==Tryz.pinned.checked.prog.mapsAmong Tryz.f6.resultTypes.toList))=true:=by kernel_rfl
theorem lexQuotes_j16:((Rows.lexQuotesUptoRow.loops==(Tryz.f6.params.toList++(Rows.OpenSpec.upto Rows.lexQuotesSpec).bare.plain.varTypes Tryz.pinned.checked.prog).any (Tryz.pinned.checked.prog.loopsFrom ·)))=true:=by kernel_rfl
theorem lexQuotes_j17:((Rows.lexQuotesUptoRow.wideKeys==(Tryz.f6.params.toList++(Rows.OpenSpec.upto Rows.lexQuotesSpec).bare.plain.varTypes Tryz.pinned.checked.prog++Tryz.f6.resultTypes.toList).any (Tryz.pinned.checked.prog.wideKeysFrom ·)))=true:=by kernel_rfl
theorem lexQuotes_j18:((Rows.OpenSpec.upto Rows.lexQuotesSpec).bare.vars.all (Tryz.pinned.checked.prog.varReadable ·))=true:=by kernel_rfl
theorem lexQuotes_j19:(Tryz.f6.resultTypes.all (fun t=>Tryz.pinned.checked.prog.readableRec t && decide (t < Tryz.pinned.checked.prog.types.size)))=true:=by kernel_rfl
theorem lexQuotes_j20:((Rows.lexQuotesUptoRow.ifacesOut==Tryz.f6.resultTypes.toList.any (Tryz.pinned.checked.prog.ifacesRec ·)))=true:=by kernel_rfl
theorem lexQuotes_j21:((Rows.lexQuotesUptoRow.loopsOut==Tryz.f6.resultTypes.toList.any (Tryz.pinned.checked.prog.loopsFrom ·)))=true:=by kernel_rfl
theorem lexQuotes_j22:((Rows.lexQuotesUptoRow.plainKeys==Tryz.pinned.checked.prog.plainKeys))=true:=by kernel_rfl
theorem lexQuotes_j23:(Rows.lexQuotesUptoRow.shortTexts.isNone)=true:=by kernel_rfl
theorem lexQuotes_j24:(Tryz.pinned.checked.prog.stopsHeard)=true:=by kernel_rfl
theorem lexQuotes_j25:(Tryz.pinned.checked.prog.mayEnter)=true:=by kernel_rfl
theorem lexQuotes_j26:((Rows.lexQuotesUptoRow.lifted==Tryz.pinned.checked.prog.liftsFinal))=true:=by kernel_rfl
theorem lexQuotes_j27:((Tryz.pinned.checked.prog.make==some Rows.lexQuotesUptoRow.make))=true:=by kernel_rfl
theorem lexQuotes_j28:((Rows.lexQuotesUptoRow.kinds==(if Rows.lexQuotesUptoRow.domain.isEmpty then [] else Tryz.f6.params.toList.map fun t=>match Tryz.pinned.checked.prog.underlying t with | some (.int k)=>some k | _=>none)))=true:=by kernel_rfl
theorem lexQuotes_j29:((Rows.lexQuotesUptoRow.pinned==Rows.lexQuotesUptoRow.pinnedBy))=true:=by kernel_rfl
theorem lexQuotes_j30:((Rows.lexQuotesUptoRow.veiled==(Tryz.f6.params.toList++(Rows.OpenSpec.upto Rows.lexQuotesSpec).bare.plain.varTypes Tryz.pinned.checked.prog++Tryz.f6.resultTypes.toList).any (Tryz.pinned.checked.prog.veiledRec ·)))=true:=by kernel_rfl
theorem lexQuotes_j31:(Rows.lexQuotesUptoRow.veiledFits Tryz.pinned.checked.prog Tryz.f6.params.toList (Tryz.f6.params.toList++(Rows.OpenSpec.upto Rows.lexQuotesSpec).bare.plain.varTypes Tryz.pinned.checked.prog++Tryz.f6.resultTypes.toList))=true:=by kernel_rfl
theorem and_mk {a b:Bool} (h1:a=true) (h2:b=true):(a && b)=true:=by rw [h1,h2]; rfl
theorem lexQuotes_facts:joinedFacts Tryz.pinned.checked.prog 6 Tryz.f6 (Rows.OpenSpec.upto Rows.lexQuotesSpec).bare Rows.lexQuotesUptoRow=true:=by
 unfold joinedFacts
 exact and_mk (and_mk (and_mk (and_mk (and_mk (and_mk (and_mk (and_mk (and_mk (and_mk (and_mk (and_mk (and_mk (and_mk (and_mk (and_mk (and_mk (and_mk (and_mk (and_mk (and_mk (and_mk (and_mk (and_mk (and_mk (and_mk (and_mk (and_mk (and_mk (and_mk (and_mk lexQuotes_j0 lexQuotes_j1) lexQuotes_j2) lexQuotes_j3) lexQuotes_j4) lexQuotes_j5) lexQuotes_j6) lexQuotes_j7) lexQuotes_j8) lexQuotes_j9) lexQuotes_j10) lexQuotes_j11) lexQuotes_j12) lexQuotes_j13) lexQuotes_j14) lexQuotes_j15) lexQuotes_j16) lexQuotes_j17) lexQuotes_j18) lexQuotes_j19) lexQuotes_j20) lexQuotes_j21) lexQuotes_j22) lexQuotes_j23) lexQuotes_j24) lexQuotes_j25) lexQuotes_j26) lexQuotes_j27) lexQuotes_j28) lexQuotes_j29) lexQuotes_j30) lexQuotes_j31
theorem lexQuotes_looks:true=Tryz.pinned.checked.prog.looks [] :=by kernel_rfl
theorem lexQuotes_goes:false=Rows.lexQuotesUptoRow.goesBy Tryz.pinned.checked.prog:=by kernel_rfl
theorem lexQuotes_text:Rows.lexQuotesUptoRow.wfByText (Rows.OpenSpec.upto Rows.lexQuotesSpec)=true:=by kernel_rfl
theorem lexQuotes_at:Tryz.pinned.checked.prog.funcNamed Rows.lexQuotesUptoRow.func=some 6:=by kernel_rfl
theorem lexQuotes_said:Rows.LexQuotesUptoSaid:=
 OpenClaim.holds_of_cond 6 Tryz.f6 rfl rfl rfl rfl rfl rfl rfl ⟨rfl,rfl,rfl,rfl,rfl⟩ rfl rfl rfl rfl rfl lexQuotes_at Tryz.func6 lexQuotes_facts
  (of_decide_eq_true (by kernel_rfl)) (by unfold Func.isWrapper; first | (rw [if_pos (by decide+kernel)]; kernel_rfl) | (rw [if_neg (by decide+kernel)]; exact⟨rfl,rfl⟩))
  (fun os started H enc _ F=>by rw [OpenClaim.pre_eq_preRow]; exact lexQuotes_lifted os started H enc F)
theorem lexQuotes_plain (f:FuncId) (fn:Func) (hf:Tryz.pinned.checked.prog.funcNamed "quadrille/quadrillelaw11.LexQuotes" =some f) (hfn:Tryz.pinned.checked.prog.funcs[f]? =some fn):
  true=Tryz.pinned.checked.prog.looks [] ∧∀ (j:Nat) t,fn.params[j]? =some t→Tryz.pinned.checked.prog.wantsStandIn t=false:=by
 obtain rfl:f=6:=Option.some.inj ((show Tryz.prog.funcNamed "quadrille/quadrillelaw11.LexQuotes" =some 6 by kernel_rfl).symm.trans hf) |>.symm
 obtain rfl:fn=Tryz.f6:=(Option.some.inj (Tryz.func6.symm.trans hfn)).symm
 refine⟨lexQuotes_looks,fun j t ht=> ?_⟩
 rw [Tryz.params6] at ht
 have hm:=Array.mem_of_getElem? ht
 simp only [List.mem_toArray,List.mem_cons,List.not_mem_nil,or_false] at hm
 rcases hm with rfl | rfl
 ·exact (show Tryz.prog.wantsStandIn 9=false by kernel_rfl)
 ·exact (show Tryz.prog.wantsStandIn 3=false by kernel_rfl)
theorem lexQuotes_card:Rows.LexQuotesUptoCardSaid:=
 Claim7.holds_tied_plain_at .later [] _ _ _ _ lexQuotes_said (fun _ h=>by cases h) lexQuotes_text (fun _ h=>by cases h) lexQuotesUpto_row_tie rfl ⟨rfl,rfl⟩ (by kernel_rfl) rfl lexQuotes_plain lexQuotes_goes
#print axioms lexQuotes_card
end Go.Proofs.YtdgfhijnconaoaaGreatDoor
