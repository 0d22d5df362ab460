/-
  WriteNames (layer 13): whatever the arguments: the law answers true; each argument reads as it did. No condition.
-/
import Derived.Test.YtlbmpbkfkmabaaaGreatDoorVaI
import Derived.Test.YtlbmpbkfkmabaaaGreatDoorWrD
namespace Go.Proofs.YtlbmpbkfkmabaaaGreatDoor
open Go.ChangeShapes Go.WideShapes Go.ChangeAt Go.RowKit

set_option maxRecDepth 100000 in
theorem writeNames_contract (H : Type) (enc : TypeId × Value → H) (W : World) (base : Nat) (args : Array Value) (ds gs : List (DataW H)) (before : List MemPlace)
    (hval : ∀ (j : Nat) t v, Tryz.f6.params[j]? = some t → args[j]? = some v → Value.okWide Tryz.prog W .any base t v)
    (hW : DataW.Whole enc Tryz.prog Tryz.f6.params.toList Rows.writeNamesSpec.vars false W args.toList ds gs before) (hG : J0.I W) :
    Calls Tryz.prog 6 args W fun e W' => ∃ v, e = .returned v ∧ Rows.writeNamesSpec.post enc Tryz.prog Tryz.f6 false true false false W args v W' := by
  have hW' := hW
  obtain ⟨p, q, hA0, hV, rfl, hfz, hnd⟩ := hW
  have hA : DataW.TrodAll enc Tryz.prog W 0 (fun _ => true) true Tryz.f6.params.toList args.toList ds p := hA0
  rw [Tryz.params6] at hA hval
  obtain ⟨hargs, rfl, rfl⟩ := trodAll_nil hA
  obtain rfl : args = #[] := by cases args; simp_all
  obtain ⟨rfl, rfl⟩ := trodVars_none hV

  clear hA0
  simp only [List.append_nil] at hW'
  have he : Enters Tryz.prog 6 := enters_of Tryz.func6 (by kernel_rfl) (c := _) rfl
  refine (Pure.calls (writeNames_pure ) he W hG).mono fun e' W' ⟨he', hb⟩ => ?_
  subst he'
  exact ⟨_, rfl, post_of_below hW' (fun _ _ _ => trodAll_cons_mk (shut_bool Tryz.underlying4 _) trodAll_mk0)
    (fun _ => trodAll_mk0) (fun _ => rfl) hb (ok_one (by kernel_rfl) rfl (okWide_bool_mk Tryz.underlying4 _))⟩

theorem writeNames_laid (os : Os) : laidMet Tryz.prog Rows.writeNamesRow.laid ((laidWorld os).forCall (fun _ _ => 0) ⟨#[], #[], []⟩).memory :=
  laidMet_of_run' 8 (by kernel_rfl) (by kernel_rfl)

theorem writeNames_reads (os : Os) {H : Type} (enc : TypeId × Value → H) : ∃ places, DataW.whole enc Tryz.prog ((laidWorld os).forCall (fun _ _ => 0) ⟨#[], #[], []⟩).memory Tryz.f6.params.toList Rows.writeNamesSpec.vars false
    (#[] : Array Value).toList 8 = some ([], [], places) :=
  ⟨[], by kernel_rfl⟩

set_option maxRecDepth 100000 in
theorem writeNames_lifted (os : Os) (started : os.Started) (H : Type) (enc : TypeId × Value → H) (F : Stop.Interp) :
    ReturnsInHanded {} Tryz.checked os 6 .any ((OpenSpec.ofChange Rows.writeNamesSpec).preRow enc Tryz.prog Tryz.f6 Rows.writeNamesRow.domain false Rows.writeNamesRow.laid) (((OpenSpec.ofChange Rows.writeNamesSpec).at F).post enc Tryz.prog Tryz.f6 false true false false) := by
  obtain ⟨places, hx⟩ := writeNames_reads os enc
  refine returnsInHanded_of_row (C := Tryz.checked) (s := OpenSpec.ofChange Rows.writeNamesSpec) own started (by kernel_rfl) Tryz.func6
    (witness_row_at (enc := enc) (C := Tryz.checked) false (laidWorld os) #[] rfl (by kernel_rfl) (by kernel_rfl) (by kernel_rfl)
      (OpenSpec.preRow_of_cond 8 hx (by kernel_rfl) (fun k hk => by cases hk) (by kernel_rfl) (writeNames_laid os))) ?_
  intro W base args ds gs before hval hW _ _ _ hL hS _
  exact writeNames_contract H enc W base args ds gs before hval hW (inv_of_laid hL hS)

theorem writeNames_j0 : (Rows.writeNamesRow.wf (OpenSpec.ofChange (OpenSpec.ofChange Rows.writeNamesSpec).bare)) = true := by kernel_rfl
theorem writeNames_j1 : (laidOutB Tryz.pinned.checked.prog) = true := by kernel_rfl
theorem writeNames_j2 : (mapsRowed Tryz.pinned.checked.prog) = true := by kernel_rfl
theorem writeNames_j3 : (Tryz.f6.params.all (Tryz.pinned.checked.prog.readableRec ·)) = true := by kernel_rfl
theorem writeNames_j4 : (namedTie Tryz.pinned.checked.prog Rows.writeNamesRow.named (OpenSpec.ofChange Rows.writeNamesSpec).bare.vars) = true := by kernel_rfl
theorem writeNames_j5 : ((Rows.writeNamesRow.stops == [])) = true := by kernel_rfl
theorem writeNames_j6 : ((Tryz.pinned.checked.prog.stops == [])) = true := by kernel_rfl
theorem writeNames_j7 : ((Rows.writeNamesRow.knobs == [])) = true := by kernel_rfl
theorem writeNames_j8 : ((Tryz.pinned.checked.prog.stopKnobs == [])) = true := by kernel_rfl
theorem writeNames_j9 : ((Rows.writeNamesRow.inPlace == Tryz.pinned.checked.prog.inPlace 6)) = true := by kernel_rfl
theorem writeNames_j10 : ((Rows.writeNamesRow.unfollowed == Tryz.pinned.checked.prog.unfollowed 6)) = true := by kernel_rfl
theorem writeNames_j11 : ((Rows.writeNamesRow.recurses == Tryz.pinned.checked.prog.recurses 6)) = true := by kernel_rfl
theorem writeNames_j12 : ((Rows.writeNamesRow.named == Tryz.pinned.checked.prog.varsNamed 6)) = true := by kernel_rfl
theorem writeNames_j13 : ((Rows.writeNamesRow.maps == (Tryz.f6.params.toList ++ (OpenSpec.ofChange Rows.writeNamesSpec).bare.plain.varTypes Tryz.pinned.checked.prog).any (Tryz.pinned.checked.prog.mapsRec ·))) = true := by kernel_rfl
theorem writeNames_j14 : ((Rows.writeNamesRow.ifaces == (Tryz.f6.params.toList ++ (OpenSpec.ofChange Rows.writeNamesSpec).bare.plain.varTypes Tryz.pinned.checked.prog).any (Tryz.pinned.checked.prog.ifacesRec ·))) = true := by kernel_rfl
theorem writeNames_j15 : ((Rows.writeNamesRow.mapsOut == Tryz.pinned.checked.prog.mapsAmong Tryz.f6.resultTypes.toList)) = true := by kernel_rfl
theorem writeNames_j16 : ((Rows.writeNamesRow.loops == (Tryz.f6.params.toList ++ (OpenSpec.ofChange Rows.writeNamesSpec).bare.plain.varTypes Tryz.pinned.checked.prog).any (Tryz.pinned.checked.prog.loopsFrom ·))) = true := by kernel_rfl
theorem writeNames_j17 : ((Rows.writeNamesRow.wideKeys == (Tryz.f6.params.toList ++ (OpenSpec.ofChange Rows.writeNamesSpec).bare.plain.varTypes Tryz.pinned.checked.prog ++ Tryz.f6.resultTypes.toList).any (Tryz.pinned.checked.prog.wideKeysFrom ·))) = true := by kernel_rfl
theorem writeNames_j18 : ((OpenSpec.ofChange Rows.writeNamesSpec).bare.vars.all (Tryz.pinned.checked.prog.varReadable ·)) = true := by kernel_rfl
theorem writeNames_j19 : (Tryz.f6.resultTypes.all (fun t => Tryz.pinned.checked.prog.readableRec t && decide (t < Tryz.pinned.checked.prog.types.size))) = true := by kernel_rfl
theorem writeNames_j20 : ((Rows.writeNamesRow.ifacesOut == Tryz.f6.resultTypes.toList.any (Tryz.pinned.checked.prog.ifacesRec ·))) = true := by kernel_rfl
theorem writeNames_j21 : ((Rows.writeNamesRow.loopsOut == Tryz.f6.resultTypes.toList.any (Tryz.pinned.checked.prog.loopsFrom ·))) = true := by kernel_rfl
theorem writeNames_j22 : ((Rows.writeNamesRow.plainKeys == Tryz.pinned.checked.prog.plainKeys)) = true := by kernel_rfl
theorem writeNames_j23 : (Rows.writeNamesRow.shortTexts.isNone) = true := by kernel_rfl
theorem writeNames_j24 : (Tryz.pinned.checked.prog.stopsHeard) = true := by kernel_rfl
theorem writeNames_j25 : (Tryz.pinned.checked.prog.mayEnter) = true := by kernel_rfl
theorem writeNames_j26 : ((Rows.writeNamesRow.lifted == Tryz.pinned.checked.prog.liftsFinal)) = true := by kernel_rfl
theorem writeNames_j27 : ((Tryz.pinned.checked.prog.make == some Rows.writeNamesRow.make)) = true := by kernel_rfl
theorem writeNames_j28 : ((Rows.writeNamesRow.kinds == (if Rows.writeNamesRow.domain.isEmpty then [] else Tryz.f6.params.toList.map fun t => match Tryz.pinned.checked.prog.underlying t with | some (.int k) => some k | _ => none))) = true := by kernel_rfl
theorem writeNames_j29 : ((Rows.writeNamesRow.pinned == Rows.writeNamesRow.pinnedBy)) = true := by kernel_rfl
theorem writeNames_j30 : ((Rows.writeNamesRow.veiled == (Tryz.f6.params.toList ++ (OpenSpec.ofChange Rows.writeNamesSpec).bare.plain.varTypes Tryz.pinned.checked.prog ++ Tryz.f6.resultTypes.toList).any (Tryz.pinned.checked.prog.veiledRec ·))) = true := by kernel_rfl
theorem writeNames_j31 : (Rows.writeNamesRow.veiledFits Tryz.pinned.checked.prog Tryz.f6.params.toList (Tryz.f6.params.toList ++ (OpenSpec.ofChange Rows.writeNamesSpec).bare.plain.varTypes Tryz.pinned.checked.prog ++ Tryz.f6.resultTypes.toList)) = true := by kernel_rfl
theorem and_mk {a b : Bool} (h1 : a = true) (h2 : b = true) : (a && b) = true := by rw [h1, h2]; rfl

set_option maxRecDepth 100000 in
/-- The closed facts on the row, one by one (together they ask too much memory). -/
theorem writeNames_facts : joinedFacts Tryz.pinned.checked.prog 6 Tryz.f6 (OpenSpec.ofChange Rows.writeNamesSpec).bare Rows.writeNamesRow = true := by
  unfold joinedFacts
  exact and_mk (and_mk (and_mk (and_mk (and_mk (and_mk (and_mk (and_mk (and_mk (and_mk (and_mk (and_mk (and_mk (and_mk (and_mk (and_mk (and_mk (and_mk (and_mk (and_mk (and_mk (and_mk (and_mk (and_mk (and_mk (and_mk (and_mk (and_mk (and_mk (and_mk (and_mk writeNames_j0 writeNames_j1) writeNames_j2) writeNames_j3) writeNames_j4) writeNames_j5) writeNames_j6) writeNames_j7) writeNames_j8) writeNames_j9) writeNames_j10) writeNames_j11) writeNames_j12) writeNames_j13) writeNames_j14) writeNames_j15) writeNames_j16) writeNames_j17) writeNames_j18) writeNames_j19) writeNames_j20) writeNames_j21) writeNames_j22) writeNames_j23) writeNames_j24) writeNames_j25) writeNames_j26) writeNames_j27) writeNames_j28) writeNames_j29) writeNames_j30) writeNames_j31

theorem writeNames_looks : true = Tryz.pinned.checked.prog.looks [] := by kernel_rfl
theorem writeNames_goes : false = Rows.writeNamesRow.goesBy Tryz.pinned.checked.prog := by kernel_rfl
theorem writeNames_text : Rows.writeNamesRow.wfByText (OpenSpec.ofChange Rows.writeNamesSpec) = true := by kernel_rfl
theorem writeNames_at : Tryz.pinned.checked.prog.funcNamed Rows.writeNamesRow.func = some 6 := by kernel_rfl

theorem writeNames_said : Rows.WriteNamesSaid :=
  OpenClaim.holds_of_cond 6 Tryz.f6 rfl rfl rfl rfl rfl rfl rfl ⟨rfl, rfl, rfl, rfl, rfl⟩ rfl rfl rfl rfl rfl writeNames_at Tryz.func6 writeNames_facts
    (of_decide_eq_true (by kernel_rfl)) (by unfold Func.isWrapper; first | (rw [if_pos (by decide +kernel)]; kernel_rfl) | (rw [if_neg (by decide +kernel)]; exact ⟨rfl, rfl⟩))
    (fun os started H enc _ F => by rw [OpenClaim.pre_eq_preRow]; exact writeNames_lifted os started H enc F)

theorem writeNames_plain (f : FuncId) (fn : Func) (hf : Tryz.pinned.checked.prog.funcNamed "quadrille/quadrillelaw13.WriteNames" = some f) (hfn : Tryz.pinned.checked.prog.funcs[f]? = some fn) :
    true = Tryz.pinned.checked.prog.looks [] ∧ ∀ (j : Nat) t, fn.params[j]? = some t → Tryz.pinned.checked.prog.wantsStandIn t = false := by
  obtain rfl : f = 6 := Option.some.inj ((show Tryz.prog.funcNamed "quadrille/quadrillelaw13.WriteNames" = some 6 by kernel_rfl).symm.trans hf) |>.symm
  obtain rfl : fn = Tryz.f6 := (Option.some.inj (Tryz.func6.symm.trans hfn)).symm
  refine ⟨writeNames_looks, fun j t ht => ?_⟩
  rw [Tryz.params6] at ht
  simp at ht

/-- THE CARD. -/
theorem writeNames_card : Rows.WriteNamesCardSaid :=
  Claim7.holds_tied_plain_at .later [] _ _ _ _ writeNames_said (fun _ h => by cases h) writeNames_text (fun _ h => by cases h) writeNames_row_tie rfl ⟨rfl, rfl⟩ (by kernel_rfl) rfl writeNames_plain writeNames_goes

#print axioms writeNames_card
end Go.Proofs.YtlbmpbkfkmabaaaGreatDoor
