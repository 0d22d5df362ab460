/-
  FormulaKnown (layer 12): whatever the arguments: the law answers true; each argument reads as it did. No condition.
-/
import Derived.Test.YtlbmpbkfkmabaaaGreatDoorVaI
import Derived.Test.YtlbmpbkfkmabaaaGreatDoorFkC
namespace Go.Proofs.YtlbmpbkfkmabaaaGreatDoor
open Go.ChangeShapes Go.WideShapes Go.ChangeAt Go.RowKit

set_option maxRecDepth 100000 in
theorem formulaKnown_contract (H : Type) (enc : TypeId × Value → H) (W : World) (base : Nat) (args : Array Value) (ds gs : List (DataW H)) (before : List MemPlace)
    (hval : ∀ (j : Nat) t v, Tryz.f5.params[j]? = some t → args[j]? = some v → Value.okWide Tryz.prog W .any base t v)
    (hW : DataW.Whole enc Tryz.prog Tryz.f5.params.toList Rows.formulaKnownSpec.vars false W args.toList ds gs before) (hz : (DataW.weightsEach Tryz.prog (Tryz.f5.params.toList ++ (OpenSpec.ofChange Rows.formulaKnownSpec).bare.plain.varTypes Tryz.prog) (ds ++ gs)).all (· ≤ reachBytes) = true) (hG : J0.I W) :
    Calls Tryz.prog 5 args W fun e W' => ∃ v, e = .returned v ∧ Rows.formulaKnownSpec.post enc Tryz.prog Tryz.f5 false true false false W args v W' := by
  have hW' := hW
  obtain ⟨p, q, hA0, hV, rfl, hfz, hnd⟩ := hW
  have hA : DataW.TrodAll enc Tryz.prog W 0 (fun _ => true) true Tryz.f5.params.toList args.toList ds p := hA0
  rw [Tryz.params5] at hA hval
  obtain ⟨v0, vs0, d0, ds0, p0, q0, hargs, rfl, rfl, h0, r0⟩ := trodAll_cons hA
  obtain ⟨rfl, rfl, rfl⟩ := trodAll_nil r0
  obtain rfl : args = #[v0] := by cases args; simp_all
  obtain ⟨rfl, rfl⟩ := trodVars_none hV
  obtain ⟨s0, rfl, rfl, rfl, w0⟩ := Go.ChangeMaps.open_string Tryz.underlying9 (hval 0 _ v0 rfl rfl) h0
  obtain ⟨⟨s0⟩⟩ := s0
  rw [Tryz.params5] at hz
  have z0 := weights_str hz
  clear hA0
  simp only [List.append_nil] at hW'
  have he : Enters Tryz.prog 5 := enters_of Tryz.func5 (by kernel_rfl) (c := _) rfl
  refine (Pure.calls (formulaKnown_pure s0 z0) he W hG).mono fun e' W' ⟨he', hb⟩ => ?_
  subst he'
  exact ⟨_, rfl, post_of_below hW' (fun _ _ _ => trodAll_cons_mk (shut_bool Tryz.underlying4 _) trodAll_mk0)
    (fun _ => trodAll_cons_mk (Go.ChangeMaps.shut_string Tryz.underlying9 w0) trodAll_mk0) (fun _ => rfl) hb (ok_one (by kernel_rfl) rfl (okWide_bool_mk Tryz.underlying4 _))⟩

theorem formulaKnown_laid (os : Os) : laidMet Tryz.prog Rows.formulaKnownRow.laid ((laidWorld os).forCall (fun _ _ => 0) ⟨#[], #[.string ⟨#[]⟩], []⟩).memory :=
  laidMet_of_run' 8 (by kernel_rfl) (by kernel_rfl)

theorem formulaKnown_reads (os : Os) {H : Type} (enc : TypeId × Value → H) : ∃ places, DataW.whole enc Tryz.prog ((laidWorld os).forCall (fun _ _ => 0) ⟨#[], #[.string ⟨#[]⟩], []⟩).memory Tryz.f5.params.toList Rows.formulaKnownSpec.vars false
    #[Value.string ⟨#[]⟩].toList 8 = some ([.lit (.string [])], [], places) :=
  ⟨[], by kernel_rfl⟩

set_option maxRecDepth 100000 in
theorem formulaKnown_lifted (os : Os) (started : os.Started) (H : Type) (enc : TypeId × Value → H) (F : Stop.Interp) :
    ReturnsInHanded {} Tryz.checked os 5 .any ((OpenSpec.ofChange Rows.formulaKnownSpec).preRow enc Tryz.prog Tryz.f5 Rows.formulaKnownRow.domain false Rows.formulaKnownRow.laid) (((OpenSpec.ofChange Rows.formulaKnownSpec).at F).post enc Tryz.prog Tryz.f5 false true false false) := by
  obtain ⟨places, hx⟩ := formulaKnown_reads os enc
  refine returnsInHanded_of_row (C := Tryz.checked) (s := OpenSpec.ofChange Rows.formulaKnownSpec) own started (by kernel_rfl) Tryz.func5
    (witness_row_at (enc := enc) (C := Tryz.checked) false (laidWorld os) #[.string ⟨#[]⟩] rfl (by kernel_rfl) (by kernel_rfl) (by kernel_rfl)
      (OpenSpec.preRow_of_cond 8 hx (by kernel_rfl) (fun k hk => by cases hk) (by kernel_rfl) (formulaKnown_laid os))) ?_
  intro W base args ds gs before hval hW _ _ hz hL hS _
  exact formulaKnown_contract H enc W base args ds gs before hval hW hz (inv_of_laid hL hS)

theorem formulaKnown_j0 : (Rows.formulaKnownRow.wf (OpenSpec.ofChange (OpenSpec.ofChange Rows.formulaKnownSpec).bare)) = true := by kernel_rfl
theorem formulaKnown_j1 : (laidOutB Tryz.pinned.checked.prog) = true := by kernel_rfl
theorem formulaKnown_j2 : (mapsRowed Tryz.pinned.checked.prog) = true := by kernel_rfl
theorem formulaKnown_j3 : (Tryz.f5.params.all (Tryz.pinned.checked.prog.readableRec ·)) = true := by kernel_rfl
theorem formulaKnown_j4 : (namedTie Tryz.pinned.checked.prog Rows.formulaKnownRow.named (OpenSpec.ofChange Rows.formulaKnownSpec).bare.vars) = true := by kernel_rfl
theorem formulaKnown_j5 : ((Rows.formulaKnownRow.stops == [])) = true := by kernel_rfl
theorem formulaKnown_j6 : ((Tryz.pinned.checked.prog.stops == [])) = true := by kernel_rfl
theorem formulaKnown_j7 : ((Rows.formulaKnownRow.knobs == [])) = true := by kernel_rfl
theorem formulaKnown_j8 : ((Tryz.pinned.checked.prog.stopKnobs == [])) = true := by kernel_rfl
theorem formulaKnown_j9 : ((Rows.formulaKnownRow.inPlace == Tryz.pinned.checked.prog.inPlace 5)) = true := by kernel_rfl
theorem formulaKnown_j10 : ((Rows.formulaKnownRow.unfollowed == Tryz.pinned.checked.prog.unfollowed 5)) = true := by kernel_rfl
theorem formulaKnown_j11 : ((Rows.formulaKnownRow.recurses == Tryz.pinned.checked.prog.recurses 5)) = true := by kernel_rfl
theorem formulaKnown_j12 : ((Rows.formulaKnownRow.named == Tryz.pinned.checked.prog.varsNamed 5)) = true := by kernel_rfl
theorem formulaKnown_j13 : ((Rows.formulaKnownRow.maps == (Tryz.f5.params.toList ++ (OpenSpec.ofChange Rows.formulaKnownSpec).bare.plain.varTypes Tryz.pinned.checked.prog).any (Tryz.pinned.checked.prog.mapsRec ·))) = true := by kernel_rfl
theorem formulaKnown_j14 : ((Rows.formulaKnownRow.ifaces == (Tryz.f5.params.toList ++ (OpenSpec.ofChange Rows.formulaKnownSpec).bare.plain.varTypes Tryz.pinned.checked.prog).any (Tryz.pinned.checked.prog.ifacesRec ·))) = true := by kernel_rfl
theorem formulaKnown_j15 : ((Rows.formulaKnownRow.mapsOut == Tryz.pinned.checked.prog.mapsAmong Tryz.f5.resultTypes.toList)) = true := by kernel_rfl
theorem formulaKnown_j16 : ((Rows.formulaKnownRow.loops == (Tryz.f5.params.toList ++ (OpenSpec.ofChange Rows.formulaKnownSpec).bare.plain.varTypes Tryz.pinned.checked.prog).any (Tryz.pinned.checked.prog.loopsFrom ·))) = true := by kernel_rfl
theorem formulaKnown_j17 : ((Rows.formulaKnownRow.wideKeys == (Tryz.f5.params.toList ++ (OpenSpec.ofChange Rows.formulaKnownSpec).bare.plain.varTypes Tryz.pinned.checked.prog ++ Tryz.f5.resultTypes.toList).any (Tryz.pinned.checked.prog.wideKeysFrom ·))) = true := by kernel_rfl
theorem formulaKnown_j18 : ((OpenSpec.ofChange Rows.formulaKnownSpec).bare.vars.all (Tryz.pinned.checked.prog.varReadable ·)) = true := by kernel_rfl
theorem formulaKnown_j19 : (Tryz.f5.resultTypes.all (fun t => Tryz.pinned.checked.prog.readableRec t && decide (t < Tryz.pinned.checked.prog.types.size))) = true := by kernel_rfl
theorem formulaKnown_j20 : ((Rows.formulaKnownRow.ifacesOut == Tryz.f5.resultTypes.toList.any (Tryz.pinned.checked.prog.ifacesRec ·))) = true := by kernel_rfl
theorem formulaKnown_j21 : ((Rows.formulaKnownRow.loopsOut == Tryz.f5.resultTypes.toList.any (Tryz.pinned.checked.prog.loopsFrom ·))) = true := by kernel_rfl
theorem formulaKnown_j22 : ((Rows.formulaKnownRow.plainKeys == Tryz.pinned.checked.prog.plainKeys)) = true := by kernel_rfl
theorem formulaKnown_j23 : (Rows.formulaKnownRow.shortTexts.isNone) = true := by kernel_rfl
theorem formulaKnown_j24 : (Tryz.pinned.checked.prog.stopsHeard) = true := by kernel_rfl
theorem formulaKnown_j25 : (Tryz.pinned.checked.prog.mayEnter) = true := by kernel_rfl
theorem formulaKnown_j26 : ((Rows.formulaKnownRow.lifted == Tryz.pinned.checked.prog.liftsFinal)) = true := by kernel_rfl
theorem formulaKnown_j27 : ((Tryz.pinned.checked.prog.make == some Rows.formulaKnownRow.make)) = true := by kernel_rfl
theorem formulaKnown_j28 : ((Rows.formulaKnownRow.kinds == (if Rows.formulaKnownRow.domain.isEmpty then [] else Tryz.f5.params.toList.map fun t => match Tryz.pinned.checked.prog.underlying t with | some (.int k) => some k | _ => none))) = true := by kernel_rfl
theorem formulaKnown_j29 : ((Rows.formulaKnownRow.pinned == Rows.formulaKnownRow.pinnedBy)) = true := by kernel_rfl
theorem formulaKnown_j30 : ((Rows.formulaKnownRow.veiled == (Tryz.f5.params.toList ++ (OpenSpec.ofChange Rows.formulaKnownSpec).bare.plain.varTypes Tryz.pinned.checked.prog ++ Tryz.f5.resultTypes.toList).any (Tryz.pinned.checked.prog.veiledRec ·))) = true := by kernel_rfl
theorem formulaKnown_j31 : (Rows.formulaKnownRow.veiledFits Tryz.pinned.checked.prog Tryz.f5.params.toList (Tryz.f5.params.toList ++ (OpenSpec.ofChange Rows.formulaKnownSpec).bare.plain.varTypes Tryz.pinned.checked.prog ++ Tryz.f5.resultTypes.toList)) = true := by kernel_rfl
theorem and_mk {a b : Bool} (h1 : a = true) (h2 : b = true) : (a && b) = true := by rw [h1, h2]; rfl

set_option maxRecDepth 100000 in
/-- The closed facts on the row, one by one (together they ask too much memory). -/
theorem formulaKnown_facts : joinedFacts Tryz.pinned.checked.prog 5 Tryz.f5 (OpenSpec.ofChange Rows.formulaKnownSpec).bare Rows.formulaKnownRow = true := by
  unfold joinedFacts
  exact and_mk (and_mk (and_mk (and_mk (and_mk (and_mk (and_mk (and_mk (and_mk (and_mk (and_mk (and_mk (and_mk (and_mk (and_mk (and_mk (and_mk (and_mk (and_mk (and_mk (and_mk (and_mk (and_mk (and_mk (and_mk (and_mk (and_mk (and_mk (and_mk (and_mk (and_mk formulaKnown_j0 formulaKnown_j1) formulaKnown_j2) formulaKnown_j3) formulaKnown_j4) formulaKnown_j5) formulaKnown_j6) formulaKnown_j7) formulaKnown_j8) formulaKnown_j9) formulaKnown_j10) formulaKnown_j11) formulaKnown_j12) formulaKnown_j13) formulaKnown_j14) formulaKnown_j15) formulaKnown_j16) formulaKnown_j17) formulaKnown_j18) formulaKnown_j19) formulaKnown_j20) formulaKnown_j21) formulaKnown_j22) formulaKnown_j23) formulaKnown_j24) formulaKnown_j25) formulaKnown_j26) formulaKnown_j27) formulaKnown_j28) formulaKnown_j29) formulaKnown_j30) formulaKnown_j31

theorem formulaKnown_looks : true = Tryz.pinned.checked.prog.looks [] := by kernel_rfl
theorem formulaKnown_goes : false = Rows.formulaKnownRow.goesBy Tryz.pinned.checked.prog := by kernel_rfl
theorem formulaKnown_text : Rows.formulaKnownRow.wfByText (OpenSpec.ofChange Rows.formulaKnownSpec) = true := by kernel_rfl
theorem formulaKnown_at : Tryz.pinned.checked.prog.funcNamed Rows.formulaKnownRow.func = some 5 := by kernel_rfl

theorem formulaKnown_said : Rows.FormulaKnownSaid :=
  OpenClaim.holds_of_cond 5 Tryz.f5 rfl rfl rfl rfl rfl rfl rfl ⟨rfl, rfl, rfl, rfl, rfl⟩ rfl rfl rfl rfl rfl formulaKnown_at Tryz.func5 formulaKnown_facts
    (of_decide_eq_true (by kernel_rfl)) (by unfold Func.isWrapper; first | (rw [if_pos (by decide +kernel)]; kernel_rfl) | (rw [if_neg (by decide +kernel)]; exact ⟨rfl, rfl⟩))
    (fun os started H enc _ F => by rw [OpenClaim.pre_eq_preRow]; exact formulaKnown_lifted os started H enc F)

theorem formulaKnown_plain (f : FuncId) (fn : Func) (hf : Tryz.pinned.checked.prog.funcNamed "quadrille/quadrillelaw12.FormulaKnown" = some f) (hfn : Tryz.pinned.checked.prog.funcs[f]? = some fn) :
    true = Tryz.pinned.checked.prog.looks [] ∧ ∀ (j : Nat) t, fn.params[j]? = some t → Tryz.pinned.checked.prog.wantsStandIn t = false := by
  obtain rfl : f = 5 := Option.some.inj ((show Tryz.prog.funcNamed "quadrille/quadrillelaw12.FormulaKnown" = some 5 by kernel_rfl).symm.trans hf) |>.symm
  obtain rfl : fn = Tryz.f5 := (Option.some.inj (Tryz.func5.symm.trans hfn)).symm
  refine ⟨formulaKnown_looks, fun j t ht => ?_⟩
  rw [Tryz.params5] at ht
  have hm := Array.mem_of_getElem? ht
  simp only [List.mem_toArray, List.mem_cons, List.not_mem_nil, or_false] at hm
  rcases hm with rfl
  · exact (show Tryz.prog.wantsStandIn 9 = false by kernel_rfl)

/-- THE CARD. -/
theorem formulaKnown_card : Rows.FormulaKnownCardSaid :=
  Claim7.holds_tied_plain_at .later [] _ _ _ _ formulaKnown_said (fun _ h => by cases h) formulaKnown_text (fun _ h => by cases h) formulaKnown_row_tie rfl ⟨rfl, rfl⟩ (by kernel_rfl) rfl formulaKnown_plain formulaKnown_goes

#print axioms formulaKnown_card
end Go.Proofs.YtlbmpbkfkmabaaaGreatDoor
