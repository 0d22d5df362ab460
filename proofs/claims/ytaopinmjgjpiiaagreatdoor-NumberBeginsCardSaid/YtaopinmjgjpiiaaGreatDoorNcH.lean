/-
  NumberBegins (layer 05): whatever the arguments: the law answers true; each argument reads as it did. No condition.
-/
import Derived.Test.YtaopinmjgjpiiaaGreatDoorVaI
import Derived.Test.YtaopinmjgjpiiaaGreatDoorNcG
namespace Go.Proofs.YtaopinmjgjpiiaaGreatDoor
open Go.ChangeShapes Go.WideShapes Go.ChangeAt Go.RowKit

set_option maxRecDepth 100000 in
theorem numberBegins_contract (H : Type) (enc : TypeId × Value → H) (W : World) (base : Nat) (args : Array Value) (ds gs : List (DataW H)) (before : List MemPlace)
    (hval : ∀ (j : Nat) t v, Tryz.f3.params[j]? = some t → args[j]? = some v → Value.okWide Tryz.prog W .any base t v)
    (hW : DataW.Whole enc Tryz.prog Tryz.f3.params.toList Rows.numberBeginsSpec.vars false W args.toList ds gs before) (hz : (DataW.weightsEach Tryz.prog (Tryz.f3.params.toList ++ (OpenSpec.ofChange Rows.numberBeginsSpec).bare.plain.varTypes Tryz.prog) (ds ++ gs)).all (· ≤ reachBytes) = true) (hG : J0.I W) :
    Calls Tryz.prog 3 args W fun e W' => ∃ v, e = .returned v ∧ Rows.numberBeginsSpec.post enc Tryz.prog Tryz.f3 false true false false W args v W' := by
  have hW' := hW
  obtain ⟨p, q, hA0, hV, rfl, hfz, hnd⟩ := hW
  have hA : DataW.TrodAll enc Tryz.prog W 0 (fun _ => true) true Tryz.f3.params.toList args.toList ds p := hA0
  rw [Tryz.params3] at hA hval
  obtain ⟨v0, vs0, d0, ds0, p0, q0, hargs, rfl, rfl, h0, r0⟩ := trodAll_cons hA
  obtain ⟨rfl, rfl, rfl⟩ := trodAll_nil r0
  obtain rfl : args = #[v0] := by cases args; simp_all
  obtain ⟨rfl, rfl⟩ := trodVars_none hV
  obtain ⟨s0, rfl, rfl, rfl, w0⟩ := Go.ChangeMaps.open_string Tryz.underlying9 (hval 0 _ v0 rfl rfl) h0
  obtain ⟨⟨s0⟩⟩ := s0
  rw [Tryz.params3] at hz
  have z0 := weights_str hz
  clear hA0
  simp only [List.append_nil] at hW'
  have he : Enters Tryz.prog 3 := enters_of Tryz.func3 (by kernel_rfl) (c := _) rfl
  refine (Pure.calls (numberBegins_pure s0 z0) he W hG).mono fun e' W' ⟨he', hb⟩ => ?_
  subst he'
  exact ⟨_, rfl, post_of_below hW' (fun _ _ _ => trodAll_cons_mk (shut_bool Tryz.underlying4 _) trodAll_mk0)
    (fun _ => trodAll_cons_mk (Go.ChangeMaps.shut_string Tryz.underlying9 w0) trodAll_mk0) (fun _ => rfl) hb (ok_one (by kernel_rfl) rfl (okWide_bool_mk Tryz.underlying4 _))⟩

theorem numberBegins_laid (os : Os) : laidMet Tryz.prog Rows.numberBeginsRow.laid ((laidWorld os).forCall (fun _ _ => 0) ⟨#[], #[.string ⟨#[]⟩], []⟩).memory :=
  laidMet_of_run' 8 (by kernel_rfl) (by kernel_rfl)

theorem numberBegins_reads (os : Os) {H : Type} (enc : TypeId × Value → H) : ∃ places, DataW.whole enc Tryz.prog ((laidWorld os).forCall (fun _ _ => 0) ⟨#[], #[.string ⟨#[]⟩], []⟩).memory Tryz.f3.params.toList Rows.numberBeginsSpec.vars false
    #[Value.string ⟨#[]⟩].toList 8 = some ([.lit (.string [])], [], places) :=
  ⟨[], by kernel_rfl⟩

set_option maxRecDepth 100000 in
theorem numberBegins_lifted (os : Os) (started : os.Started) (H : Type) (enc : TypeId × Value → H) (F : Stop.Interp) :
    ReturnsInHanded {} Tryz.checked os 3 .any ((OpenSpec.ofChange Rows.numberBeginsSpec).preRow enc Tryz.prog Tryz.f3 Rows.numberBeginsRow.domain false Rows.numberBeginsRow.laid) (((OpenSpec.ofChange Rows.numberBeginsSpec).at F).post enc Tryz.prog Tryz.f3 false true false false) := by
  obtain ⟨places, hx⟩ := numberBegins_reads os enc
  refine returnsInHanded_of_row (C := Tryz.checked) (s := OpenSpec.ofChange Rows.numberBeginsSpec) own started (by kernel_rfl) Tryz.func3
    (witness_row_at (enc := enc) (C := Tryz.checked) false (laidWorld os) #[.string ⟨#[]⟩] rfl (by kernel_rfl) (by kernel_rfl) (by kernel_rfl)
      (OpenSpec.preRow_of_cond 8 hx (by kernel_rfl) (fun k hk => by cases hk) (by kernel_rfl) (numberBegins_laid os))) ?_
  intro W base args ds gs before hval hW _ _ hz hL hS _
  exact numberBegins_contract H enc W base args ds gs before hval hW hz (inv_of_laid hL hS)

theorem numberBegins_j0 : (Rows.numberBeginsRow.wf (OpenSpec.ofChange (OpenSpec.ofChange Rows.numberBeginsSpec).bare)) = true := by kernel_rfl
theorem numberBegins_j1 : (laidOutB Tryz.pinned.checked.prog) = true := by kernel_rfl
theorem numberBegins_j2 : (mapsRowed Tryz.pinned.checked.prog) = true := by kernel_rfl
theorem numberBegins_j3 : (Tryz.f3.params.all (Tryz.pinned.checked.prog.readableRec ·)) = true := by kernel_rfl
theorem numberBegins_j4 : (namedTie Tryz.pinned.checked.prog Rows.numberBeginsRow.named (OpenSpec.ofChange Rows.numberBeginsSpec).bare.vars) = true := by kernel_rfl
theorem numberBegins_j5 : ((Rows.numberBeginsRow.stops == [])) = true := by kernel_rfl
theorem numberBegins_j6 : ((Tryz.pinned.checked.prog.stops == [])) = true := by kernel_rfl
theorem numberBegins_j7 : ((Rows.numberBeginsRow.knobs == [])) = true := by kernel_rfl
theorem numberBegins_j8 : ((Tryz.pinned.checked.prog.stopKnobs == [])) = true := by kernel_rfl
theorem numberBegins_j9 : ((Rows.numberBeginsRow.inPlace == Tryz.pinned.checked.prog.inPlace 3)) = true := by kernel_rfl
theorem numberBegins_j10 : ((Rows.numberBeginsRow.unfollowed == Tryz.pinned.checked.prog.unfollowed 3)) = true := by kernel_rfl
theorem numberBegins_j11 : ((Rows.numberBeginsRow.recurses == Tryz.pinned.checked.prog.recurses 3)) = true := by kernel_rfl
theorem numberBegins_j12 : ((Rows.numberBeginsRow.named == Tryz.pinned.checked.prog.varsNamed 3)) = true := by kernel_rfl
theorem numberBegins_j13 : ((Rows.numberBeginsRow.maps == (Tryz.f3.params.toList ++ (OpenSpec.ofChange Rows.numberBeginsSpec).bare.plain.varTypes Tryz.pinned.checked.prog).any (Tryz.pinned.checked.prog.mapsRec ·))) = true := by kernel_rfl
theorem numberBegins_j14 : ((Rows.numberBeginsRow.ifaces == (Tryz.f3.params.toList ++ (OpenSpec.ofChange Rows.numberBeginsSpec).bare.plain.varTypes Tryz.pinned.checked.prog).any (Tryz.pinned.checked.prog.ifacesRec ·))) = true := by kernel_rfl
theorem numberBegins_j15 : ((Rows.numberBeginsRow.mapsOut == Tryz.pinned.checked.prog.mapsAmong Tryz.f3.resultTypes.toList)) = true := by kernel_rfl
theorem numberBegins_j16 : ((Rows.numberBeginsRow.loops == (Tryz.f3.params.toList ++ (OpenSpec.ofChange Rows.numberBeginsSpec).bare.plain.varTypes Tryz.pinned.checked.prog).any (Tryz.pinned.checked.prog.loopsFrom ·))) = true := by kernel_rfl
theorem numberBegins_j17 : ((Rows.numberBeginsRow.wideKeys == (Tryz.f3.params.toList ++ (OpenSpec.ofChange Rows.numberBeginsSpec).bare.plain.varTypes Tryz.pinned.checked.prog ++ Tryz.f3.resultTypes.toList).any (Tryz.pinned.checked.prog.wideKeysFrom ·))) = true := by kernel_rfl
theorem numberBegins_j18 : ((OpenSpec.ofChange Rows.numberBeginsSpec).bare.vars.all (Tryz.pinned.checked.prog.varReadable ·)) = true := by kernel_rfl
theorem numberBegins_j19 : (Tryz.f3.resultTypes.all (fun t => Tryz.pinned.checked.prog.readableRec t && decide (t < Tryz.pinned.checked.prog.types.size))) = true := by kernel_rfl
theorem numberBegins_j20 : ((Rows.numberBeginsRow.ifacesOut == Tryz.f3.resultTypes.toList.any (Tryz.pinned.checked.prog.ifacesRec ·))) = true := by kernel_rfl
theorem numberBegins_j21 : ((Rows.numberBeginsRow.loopsOut == Tryz.f3.resultTypes.toList.any (Tryz.pinned.checked.prog.loopsFrom ·))) = true := by kernel_rfl
theorem numberBegins_j22 : ((Rows.numberBeginsRow.plainKeys == Tryz.pinned.checked.prog.plainKeys)) = true := by kernel_rfl
theorem numberBegins_j23 : (Rows.numberBeginsRow.shortTexts.isNone) = true := by kernel_rfl
theorem numberBegins_j24 : (Tryz.pinned.checked.prog.stopsHeard) = true := by kernel_rfl
theorem numberBegins_j25 : (Tryz.pinned.checked.prog.mayEnter) = true := by kernel_rfl
theorem numberBegins_j26 : ((Rows.numberBeginsRow.lifted == Tryz.pinned.checked.prog.liftsFinal)) = true := by kernel_rfl
theorem numberBegins_j27 : ((Tryz.pinned.checked.prog.make == some Rows.numberBeginsRow.make)) = true := by kernel_rfl
theorem numberBegins_j28 : ((Rows.numberBeginsRow.kinds == (if Rows.numberBeginsRow.domain.isEmpty then [] else Tryz.f3.params.toList.map fun t => match Tryz.pinned.checked.prog.underlying t with | some (.int k) => some k | _ => none))) = true := by kernel_rfl
theorem numberBegins_j29 : ((Rows.numberBeginsRow.pinned == Rows.numberBeginsRow.pinnedBy)) = true := by kernel_rfl
theorem numberBegins_j30 : ((Rows.numberBeginsRow.veiled == (Tryz.f3.params.toList ++ (OpenSpec.ofChange Rows.numberBeginsSpec).bare.plain.varTypes Tryz.pinned.checked.prog ++ Tryz.f3.resultTypes.toList).any (Tryz.pinned.checked.prog.veiledRec ·))) = true := by kernel_rfl
theorem numberBegins_j31 : (Rows.numberBeginsRow.veiledFits Tryz.pinned.checked.prog Tryz.f3.params.toList (Tryz.f3.params.toList ++ (OpenSpec.ofChange Rows.numberBeginsSpec).bare.plain.varTypes Tryz.pinned.checked.prog ++ Tryz.f3.resultTypes.toList)) = true := by kernel_rfl
theorem and_mk {a b : Bool} (h1 : a = true) (h2 : b = true) : (a && b) = true := by rw [h1, h2]; rfl

set_option maxRecDepth 100000 in
/-- The closed facts on the row, one by one (together they ask too much memory). -/
theorem numberBegins_facts : joinedFacts Tryz.pinned.checked.prog 3 Tryz.f3 (OpenSpec.ofChange Rows.numberBeginsSpec).bare Rows.numberBeginsRow = true := by
  unfold joinedFacts
  exact and_mk (and_mk (and_mk (and_mk (and_mk (and_mk (and_mk (and_mk (and_mk (and_mk (and_mk (and_mk (and_mk (and_mk (and_mk (and_mk (and_mk (and_mk (and_mk (and_mk (and_mk (and_mk (and_mk (and_mk (and_mk (and_mk (and_mk (and_mk (and_mk (and_mk (and_mk numberBegins_j0 numberBegins_j1) numberBegins_j2) numberBegins_j3) numberBegins_j4) numberBegins_j5) numberBegins_j6) numberBegins_j7) numberBegins_j8) numberBegins_j9) numberBegins_j10) numberBegins_j11) numberBegins_j12) numberBegins_j13) numberBegins_j14) numberBegins_j15) numberBegins_j16) numberBegins_j17) numberBegins_j18) numberBegins_j19) numberBegins_j20) numberBegins_j21) numberBegins_j22) numberBegins_j23) numberBegins_j24) numberBegins_j25) numberBegins_j26) numberBegins_j27) numberBegins_j28) numberBegins_j29) numberBegins_j30) numberBegins_j31

theorem numberBegins_looks : true = Tryz.pinned.checked.prog.looks [] := by kernel_rfl
theorem numberBegins_goes : false = Rows.numberBeginsRow.goesBy Tryz.pinned.checked.prog := by kernel_rfl
theorem numberBegins_text : Rows.numberBeginsRow.wfByText (OpenSpec.ofChange Rows.numberBeginsSpec) = true := by kernel_rfl
theorem numberBegins_at : Tryz.pinned.checked.prog.funcNamed Rows.numberBeginsRow.func = some 3 := by kernel_rfl

theorem numberBegins_said : Rows.NumberBeginsSaid :=
  OpenClaim.holds_of_cond 3 Tryz.f3 rfl rfl rfl rfl rfl rfl rfl ⟨rfl, rfl, rfl, rfl, rfl⟩ rfl rfl rfl rfl rfl numberBegins_at Tryz.func3 numberBegins_facts
    (of_decide_eq_true (by kernel_rfl)) (by unfold Func.isWrapper; first | (rw [if_pos (by decide +kernel)]; kernel_rfl) | (rw [if_neg (by decide +kernel)]; exact ⟨rfl, rfl⟩))
    (fun os started H enc _ F => by rw [OpenClaim.pre_eq_preRow]; exact numberBegins_lifted os started H enc F)

theorem numberBegins_plain (f : FuncId) (fn : Func) (hf : Tryz.pinned.checked.prog.funcNamed "quadrille/quadrillelaw05.NumberBegins" = some f) (hfn : Tryz.pinned.checked.prog.funcs[f]? = some fn) :
    true = Tryz.pinned.checked.prog.looks [] ∧ ∀ (j : Nat) t, fn.params[j]? = some t → Tryz.pinned.checked.prog.wantsStandIn t = false := by
  obtain rfl : f = 3 := Option.some.inj ((show Tryz.prog.funcNamed "quadrille/quadrillelaw05.NumberBegins" = some 3 by kernel_rfl).symm.trans hf) |>.symm
  obtain rfl : fn = Tryz.f3 := (Option.some.inj (Tryz.func3.symm.trans hfn)).symm
  refine ⟨numberBegins_looks, fun j t ht => ?_⟩
  rw [Tryz.params3] at ht
  have hm := Array.mem_of_getElem? ht
  simp only [List.mem_toArray, List.mem_cons, List.not_mem_nil, or_false] at hm
  rcases hm with rfl
  · exact (show Tryz.prog.wantsStandIn 9 = false by kernel_rfl)

/-- THE CARD. -/
theorem numberBegins_card : Rows.NumberBeginsCardSaid :=
  Claim7.holds_tied_plain_at .later [] _ _ _ _ numberBegins_said (fun _ h => by cases h) numberBegins_text (fun _ h => by cases h) numberBegins_row_tie rfl ⟨rfl, rfl⟩ (by kernel_rfl) rfl numberBegins_plain numberBegins_goes

#print axioms numberBegins_card
end Go.Proofs.YtaopinmjgjpiiaaGreatDoor
