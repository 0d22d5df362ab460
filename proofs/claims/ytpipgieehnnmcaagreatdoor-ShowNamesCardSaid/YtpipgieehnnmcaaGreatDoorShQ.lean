/-
  ShowNames (layer 06): whatever the arguments: the law answers true; each argument reads as it did. No condition.
-/
import Derived.Test.YtpipgieehnnmcaaGreatDoorVaI
import Derived.Test.YtpipgieehnnmcaaGreatDoorShMN
namespace Go.Proofs.YtpipgieehnnmcaaGreatDoor
open Go.ChangeShapes Go.WideShapes Go.ChangeAt Go.RowKit

set_option maxRecDepth 100000 in
theorem showNames_contract (H : Type) (enc : TypeId × Value → H) (W : World) (base : Nat) (args : Array Value) (ds gs : List (DataW H)) (before : List MemPlace)
    (hval : ∀ (j : Nat) t v, Tryz.f6.params[j]? = some t → args[j]? = some v → Value.okWide Tryz.prog W .any base t v)
    (hW : DataW.Whole enc Tryz.prog Tryz.f6.params.toList Rows.showNamesSpec.vars false W args.toList ds gs before) (hG : J0.I W) :
    Calls Tryz.prog 6 args W fun e W' => ∃ v, e = .returned v ∧ Rows.showNamesSpec.post enc Tryz.prog Tryz.f6 false true false false W args v W' := by
  have hW' := hW
  obtain ⟨p, q, hA0, hV, rfl, hfz, hnd⟩ := hW
  have hA : DataW.TrodAll enc Tryz.prog W 0 (fun _ => true) true Tryz.f6.params.toList args.toList ds p := hA0
  rw [Tryz.params6] at hA hval
  obtain ⟨hargs, rfl, rfl⟩ := trodAll_nil hA
  obtain rfl : args = #[] := by cases args; simp_all
  obtain ⟨rfl, rfl⟩ := trodVars_none hV

  clear hA0
  simp only [List.append_nil] at hW'
  have he : Enters Tryz.prog 6 := enters_of Tryz.func6 (by kernel_rfl) (c := _) rfl
  refine (Pure.calls (showNames_pure ) he W hG).mono fun e' W' ⟨he', hb⟩ => ?_
  subst he'
  exact ⟨_, rfl, post_of_below hW' (fun _ _ _ => trodAll_cons_mk (shut_bool Tryz.underlying4 _) trodAll_mk0)
    (fun _ => trodAll_mk0) (fun _ => rfl) hb (ok_one (by kernel_rfl) rfl (okWide_bool_mk Tryz.underlying4 _))⟩

theorem showNames_laid (os : Os) : laidMet Tryz.prog Rows.showNamesRow.laid ((laidWorld os).forCall (fun _ _ => 0) ⟨#[], #[], []⟩).memory :=
  laidMet_of_run' 8 (by kernel_rfl) (by kernel_rfl)

theorem showNames_reads (os : Os) {H : Type} (enc : TypeId × Value → H) : ∃ places, DataW.whole enc Tryz.prog ((laidWorld os).forCall (fun _ _ => 0) ⟨#[], #[], []⟩).memory Tryz.f6.params.toList Rows.showNamesSpec.vars false
    (#[] : Array Value).toList 8 = some ([], [], places) :=
  ⟨[], by kernel_rfl⟩

set_option maxRecDepth 100000 in
theorem showNames_lifted (os : Os) (started : os.Started) (H : Type) (enc : TypeId × Value → H) (F : Stop.Interp) :
    ReturnsInHanded {} Tryz.checked os 6 .any ((OpenSpec.ofChange Rows.showNamesSpec).preRow enc Tryz.prog Tryz.f6 Rows.showNamesRow.domain false Rows.showNamesRow.laid) (((OpenSpec.ofChange Rows.showNamesSpec).at F).post enc Tryz.prog Tryz.f6 false true false false) := by
  obtain ⟨places, hx⟩ := showNames_reads os enc
  refine returnsInHanded_of_row (C := Tryz.checked) (s := OpenSpec.ofChange Rows.showNamesSpec) own started (by kernel_rfl) Tryz.func6
    (witness_row_at (enc := enc) (C := Tryz.checked) false (laidWorld os) #[] rfl (by kernel_rfl) (by kernel_rfl) (by kernel_rfl)
      (OpenSpec.preRow_of_cond 8 hx (by kernel_rfl) (fun k hk => by cases hk) (by kernel_rfl) (showNames_laid os))) ?_
  intro W base args ds gs before hval hW _ _ _ hL hS _
  exact showNames_contract H enc W base args ds gs before hval hW (inv_of_laid hL hS)

theorem showNames_j0 : (Rows.showNamesRow.wf (OpenSpec.ofChange (OpenSpec.ofChange Rows.showNamesSpec).bare)) = true := by kernel_rfl
theorem showNames_j1 : (laidOutB Tryz.pinned.checked.prog) = true := by kernel_rfl
theorem showNames_j2 : (mapsRowed Tryz.pinned.checked.prog) = true := by kernel_rfl
theorem showNames_j3 : (Tryz.f6.params.all (Tryz.pinned.checked.prog.readableRec ·)) = true := by kernel_rfl
theorem showNames_j4 : (namedTie Tryz.pinned.checked.prog Rows.showNamesRow.named (OpenSpec.ofChange Rows.showNamesSpec).bare.vars) = true := by kernel_rfl
theorem showNames_j5 : ((Rows.showNamesRow.stops == [])) = true := by kernel_rfl
theorem showNames_j6 : ((Tryz.pinned.checked.prog.stops == [])) = true := by kernel_rfl
theorem showNames_j7 : ((Rows.showNamesRow.knobs == [])) = true := by kernel_rfl
theorem showNames_j8 : ((Tryz.pinned.checked.prog.stopKnobs == [])) = true := by kernel_rfl
theorem showNames_j9 : ((Rows.showNamesRow.inPlace == Tryz.pinned.checked.prog.inPlace 6)) = true := by kernel_rfl
theorem showNames_j10 : ((Rows.showNamesRow.unfollowed == Tryz.pinned.checked.prog.unfollowed 6)) = true := by kernel_rfl
theorem showNames_j11 : ((Rows.showNamesRow.recurses == Tryz.pinned.checked.prog.recurses 6)) = true := by kernel_rfl
theorem showNames_j12 : ((Rows.showNamesRow.named == Tryz.pinned.checked.prog.varsNamed 6)) = true := by kernel_rfl
theorem showNames_j13 : ((Rows.showNamesRow.maps == (Tryz.f6.params.toList ++ (OpenSpec.ofChange Rows.showNamesSpec).bare.plain.varTypes Tryz.pinned.checked.prog).any (Tryz.pinned.checked.prog.mapsRec ·))) = true := by kernel_rfl
theorem showNames_j14 : ((Rows.showNamesRow.ifaces == (Tryz.f6.params.toList ++ (OpenSpec.ofChange Rows.showNamesSpec).bare.plain.varTypes Tryz.pinned.checked.prog).any (Tryz.pinned.checked.prog.ifacesRec ·))) = true := by kernel_rfl
theorem showNames_j15 : ((Rows.showNamesRow.mapsOut == Tryz.pinned.checked.prog.mapsAmong Tryz.f6.resultTypes.toList)) = true := by kernel_rfl
theorem showNames_j16 : ((Rows.showNamesRow.loops == (Tryz.f6.params.toList ++ (OpenSpec.ofChange Rows.showNamesSpec).bare.plain.varTypes Tryz.pinned.checked.prog).any (Tryz.pinned.checked.prog.loopsFrom ·))) = true := by kernel_rfl
theorem showNames_j17 : ((Rows.showNamesRow.wideKeys == (Tryz.f6.params.toList ++ (OpenSpec.ofChange Rows.showNamesSpec).bare.plain.varTypes Tryz.pinned.checked.prog ++ Tryz.f6.resultTypes.toList).any (Tryz.pinned.checked.prog.wideKeysFrom ·))) = true := by kernel_rfl
theorem showNames_j18 : ((OpenSpec.ofChange Rows.showNamesSpec).bare.vars.all (Tryz.pinned.checked.prog.varReadable ·)) = true := by kernel_rfl
theorem showNames_j19 : (Tryz.f6.resultTypes.all (fun t => Tryz.pinned.checked.prog.readableRec t && decide (t < Tryz.pinned.checked.prog.types.size))) = true := by kernel_rfl
theorem showNames_j20 : ((Rows.showNamesRow.ifacesOut == Tryz.f6.resultTypes.toList.any (Tryz.pinned.checked.prog.ifacesRec ·))) = true := by kernel_rfl
theorem showNames_j21 : ((Rows.showNamesRow.loopsOut == Tryz.f6.resultTypes.toList.any (Tryz.pinned.checked.prog.loopsFrom ·))) = true := by kernel_rfl
theorem showNames_j22 : ((Rows.showNamesRow.plainKeys == Tryz.pinned.checked.prog.plainKeys)) = true := by kernel_rfl
theorem showNames_j23 : (Rows.showNamesRow.shortTexts.isNone) = true := by kernel_rfl
theorem showNames_j24 : (Tryz.pinned.checked.prog.stopsHeard) = true := by kernel_rfl
theorem showNames_j25 : (Tryz.pinned.checked.prog.mayEnter) = true := by kernel_rfl
theorem showNames_j26 : ((Rows.showNamesRow.lifted == Tryz.pinned.checked.prog.liftsFinal)) = true := by kernel_rfl
theorem showNames_j27 : ((Tryz.pinned.checked.prog.make == some Rows.showNamesRow.make)) = true := by kernel_rfl
theorem showNames_j28 : ((Rows.showNamesRow.kinds == (if Rows.showNamesRow.domain.isEmpty then [] else Tryz.f6.params.toList.map fun t => match Tryz.pinned.checked.prog.underlying t with | some (.int k) => some k | _ => none))) = true := by kernel_rfl
theorem showNames_j29 : ((Rows.showNamesRow.pinned == Rows.showNamesRow.pinnedBy)) = true := by kernel_rfl
theorem showNames_j30 : ((Rows.showNamesRow.veiled == (Tryz.f6.params.toList ++ (OpenSpec.ofChange Rows.showNamesSpec).bare.plain.varTypes Tryz.pinned.checked.prog ++ Tryz.f6.resultTypes.toList).any (Tryz.pinned.checked.prog.veiledRec ·))) = true := by kernel_rfl
theorem showNames_j31 : (Rows.showNamesRow.veiledFits Tryz.pinned.checked.prog Tryz.f6.params.toList (Tryz.f6.params.toList ++ (OpenSpec.ofChange Rows.showNamesSpec).bare.plain.varTypes Tryz.pinned.checked.prog ++ Tryz.f6.resultTypes.toList)) = true := by kernel_rfl
theorem and_mk {a b : Bool} (h1 : a = true) (h2 : b = true) : (a && b) = true := by rw [h1, h2]; rfl

set_option maxRecDepth 100000 in
/-- The closed facts on the row, one by one (together they ask too much memory). -/
theorem showNames_facts : joinedFacts Tryz.pinned.checked.prog 6 Tryz.f6 (OpenSpec.ofChange Rows.showNamesSpec).bare Rows.showNamesRow = true := by
  unfold joinedFacts
  exact and_mk (and_mk (and_mk (and_mk (and_mk (and_mk (and_mk (and_mk (and_mk (and_mk (and_mk (and_mk (and_mk (and_mk (and_mk (and_mk (and_mk (and_mk (and_mk (and_mk (and_mk (and_mk (and_mk (and_mk (and_mk (and_mk (and_mk (and_mk (and_mk (and_mk (and_mk showNames_j0 showNames_j1) showNames_j2) showNames_j3) showNames_j4) showNames_j5) showNames_j6) showNames_j7) showNames_j8) showNames_j9) showNames_j10) showNames_j11) showNames_j12) showNames_j13) showNames_j14) showNames_j15) showNames_j16) showNames_j17) showNames_j18) showNames_j19) showNames_j20) showNames_j21) showNames_j22) showNames_j23) showNames_j24) showNames_j25) showNames_j26) showNames_j27) showNames_j28) showNames_j29) showNames_j30) showNames_j31

theorem showNames_looks : true = Tryz.pinned.checked.prog.looks [] := by kernel_rfl
theorem showNames_goes : false = Rows.showNamesRow.goesBy Tryz.pinned.checked.prog := by kernel_rfl
theorem showNames_text : Rows.showNamesRow.wfByText (OpenSpec.ofChange Rows.showNamesSpec) = true := by kernel_rfl
theorem showNames_at : Tryz.pinned.checked.prog.funcNamed Rows.showNamesRow.func = some 6 := by kernel_rfl

theorem showNames_said : Rows.ShowNamesSaid :=
  OpenClaim.holds_of_cond 6 Tryz.f6 rfl rfl rfl rfl rfl rfl rfl ⟨rfl, rfl, rfl, rfl, rfl⟩ rfl rfl rfl rfl rfl showNames_at Tryz.func6 showNames_facts
    (of_decide_eq_true (by kernel_rfl)) (by unfold Func.isWrapper; first | (rw [if_pos (by decide +kernel)]; kernel_rfl) | (rw [if_neg (by decide +kernel)]; exact ⟨rfl, rfl⟩))
    (fun os started H enc _ F => by rw [OpenClaim.pre_eq_preRow]; exact showNames_lifted os started H enc F)

theorem showNames_plain (f : FuncId) (fn : Func) (hf : Tryz.pinned.checked.prog.funcNamed "quadrille/quadrillelaw06.ShowNames" = some f) (hfn : Tryz.pinned.checked.prog.funcs[f]? = some fn) :
    true = Tryz.pinned.checked.prog.looks [] ∧ ∀ (j : Nat) t, fn.params[j]? = some t → Tryz.pinned.checked.prog.wantsStandIn t = false := by
  obtain rfl : f = 6 := Option.some.inj ((show Tryz.prog.funcNamed "quadrille/quadrillelaw06.ShowNames" = some 6 by kernel_rfl).symm.trans hf) |>.symm
  obtain rfl : fn = Tryz.f6 := (Option.some.inj (Tryz.func6.symm.trans hfn)).symm
  refine ⟨showNames_looks, fun j t ht => ?_⟩
  rw [Tryz.params6] at ht
  simp at ht

/-- THE CARD. -/
theorem showNames_card : Rows.ShowNamesCardSaid :=
  Claim7.holds_tied_plain_at .later [] _ _ _ _ showNames_said (fun _ h => by cases h) showNames_text (fun _ h => by cases h) showNames_row_tie rfl ⟨rfl, rfl⟩ (by kernel_rfl) rfl showNames_plain showNames_goes

#print axioms showNames_card
end Go.Proofs.YtpipgieehnnmcaaGreatDoor
