/-
  LexNames (layer 11): whatever the arguments: the law answers true; each argument reads as it did. No condition.
-/
import Derived.Test.YtdapaocfidjihaaGreatDoorVaI
import Derived.Test.YtdapaocfidjihaaGreatDoorLeA
namespace Go.Proofs.YtdapaocfidjihaaGreatDoor
open Go.ChangeShapes Go.WideShapes Go.ChangeAt Go.RowKit

set_option maxRecDepth 100000 in
theorem lexNames_contract (H : Type) (enc : TypeId × Value → H) (W : World) (base : Nat) (args : Array Value) (ds gs : List (DataW H)) (before : List MemPlace)
    (hval : ∀ (j : Nat) t v, Tryz.f5.params[j]? = some t → args[j]? = some v → Value.okWide Tryz.prog W .any base t v)
    (hW : DataW.Whole enc Tryz.prog Tryz.f5.params.toList Rows.lexNamesSpec.vars false W args.toList ds gs before) (hG : J0.I W) :
    Calls Tryz.prog 5 args W fun e W' => ∃ v, e = .returned v ∧ Rows.lexNamesSpec.post enc Tryz.prog Tryz.f5 false true false false W args v W' := by
  have hW' := hW
  obtain ⟨p, q, hA0, hV, rfl, hfz, hnd⟩ := hW
  have hA : DataW.TrodAll enc Tryz.prog W 0 (fun _ => true) true Tryz.f5.params.toList args.toList ds p := hA0
  rw [Tryz.params5] at hA hval
  obtain ⟨hargs, rfl, rfl⟩ := trodAll_nil hA
  obtain rfl : args = #[] := by cases args; simp_all
  obtain ⟨rfl, rfl⟩ := trodVars_none hV

  clear hA0
  simp only [List.append_nil] at hW'
  have he : Enters Tryz.prog 5 := enters_of Tryz.func5 (by kernel_rfl) (c := _) rfl
  refine (Pure.calls (lexNames_pure ) he W hG).mono fun e' W' ⟨he', hb⟩ => ?_
  subst he'
  exact ⟨_, rfl, post_of_below hW' (fun _ _ _ => trodAll_cons_mk (shut_bool Tryz.underlying4 _) trodAll_mk0)
    (fun _ => trodAll_mk0) (fun _ => rfl) hb (ok_one (by kernel_rfl) rfl (okWide_bool_mk Tryz.underlying4 _))⟩

theorem lexNames_laid (os : Os) : laidMet Tryz.prog Rows.lexNamesRow.laid ((laidWorld os).forCall (fun _ _ => 0) ⟨#[], #[], []⟩).memory :=
  laidMet_of_run' 8 (by kernel_rfl) (by kernel_rfl)

theorem lexNames_reads (os : Os) {H : Type} (enc : TypeId × Value → H) : ∃ places, DataW.whole enc Tryz.prog ((laidWorld os).forCall (fun _ _ => 0) ⟨#[], #[], []⟩).memory Tryz.f5.params.toList Rows.lexNamesSpec.vars false
    (#[] : Array Value).toList 8 = some ([], [], places) :=
  ⟨[], by kernel_rfl⟩

set_option maxRecDepth 100000 in
theorem lexNames_lifted (os : Os) (started : os.Started) (H : Type) (enc : TypeId × Value → H) (F : Stop.Interp) :
    ReturnsInHanded {} Tryz.checked os 5 .any ((OpenSpec.ofChange Rows.lexNamesSpec).preRow enc Tryz.prog Tryz.f5 Rows.lexNamesRow.domain false Rows.lexNamesRow.laid) (((OpenSpec.ofChange Rows.lexNamesSpec).at F).post enc Tryz.prog Tryz.f5 false true false false) := by
  obtain ⟨places, hx⟩ := lexNames_reads os enc
  refine returnsInHanded_of_row (C := Tryz.checked) (s := OpenSpec.ofChange Rows.lexNamesSpec) own started (by kernel_rfl) Tryz.func5
    (witness_row_at (enc := enc) (C := Tryz.checked) false (laidWorld os) #[] rfl (by kernel_rfl) (by kernel_rfl) (by kernel_rfl)
      (OpenSpec.preRow_of_cond 8 hx (by kernel_rfl) (fun k hk => by cases hk) (by kernel_rfl) (lexNames_laid os))) ?_
  intro W base args ds gs before hval hW _ _ _ hL hS _
  exact lexNames_contract H enc W base args ds gs before hval hW (inv_of_laid hL hS)

theorem lexNames_j0 : (Rows.lexNamesRow.wf (OpenSpec.ofChange (OpenSpec.ofChange Rows.lexNamesSpec).bare)) = true := by kernel_rfl
theorem lexNames_j1 : (laidOutB Tryz.pinned.checked.prog) = true := by kernel_rfl
theorem lexNames_j2 : (mapsRowed Tryz.pinned.checked.prog) = true := by kernel_rfl
theorem lexNames_j3 : (Tryz.f5.params.all (Tryz.pinned.checked.prog.readableRec ·)) = true := by kernel_rfl
theorem lexNames_j4 : (namedTie Tryz.pinned.checked.prog Rows.lexNamesRow.named (OpenSpec.ofChange Rows.lexNamesSpec).bare.vars) = true := by kernel_rfl
theorem lexNames_j5 : ((Rows.lexNamesRow.stops == [])) = true := by kernel_rfl
theorem lexNames_j6 : ((Tryz.pinned.checked.prog.stops == [])) = true := by kernel_rfl
theorem lexNames_j7 : ((Rows.lexNamesRow.knobs == [])) = true := by kernel_rfl
theorem lexNames_j8 : ((Tryz.pinned.checked.prog.stopKnobs == [])) = true := by kernel_rfl
theorem lexNames_j9 : ((Rows.lexNamesRow.inPlace == Tryz.pinned.checked.prog.inPlace 5)) = true := by kernel_rfl
theorem lexNames_j10 : ((Rows.lexNamesRow.unfollowed == Tryz.pinned.checked.prog.unfollowed 5)) = true := by kernel_rfl
theorem lexNames_j11 : ((Rows.lexNamesRow.recurses == Tryz.pinned.checked.prog.recurses 5)) = true := by kernel_rfl
theorem lexNames_j12 : ((Rows.lexNamesRow.named == Tryz.pinned.checked.prog.varsNamed 5)) = true := by kernel_rfl
theorem lexNames_j13 : ((Rows.lexNamesRow.maps == (Tryz.f5.params.toList ++ (OpenSpec.ofChange Rows.lexNamesSpec).bare.plain.varTypes Tryz.pinned.checked.prog).any (Tryz.pinned.checked.prog.mapsRec ·))) = true := by kernel_rfl
theorem lexNames_j14 : ((Rows.lexNamesRow.ifaces == (Tryz.f5.params.toList ++ (OpenSpec.ofChange Rows.lexNamesSpec).bare.plain.varTypes Tryz.pinned.checked.prog).any (Tryz.pinned.checked.prog.ifacesRec ·))) = true := by kernel_rfl
theorem lexNames_j15 : ((Rows.lexNamesRow.mapsOut == Tryz.pinned.checked.prog.mapsAmong Tryz.f5.resultTypes.toList)) = true := by kernel_rfl
theorem lexNames_j16 : ((Rows.lexNamesRow.loops == (Tryz.f5.params.toList ++ (OpenSpec.ofChange Rows.lexNamesSpec).bare.plain.varTypes Tryz.pinned.checked.prog).any (Tryz.pinned.checked.prog.loopsFrom ·))) = true := by kernel_rfl
theorem lexNames_j17 : ((Rows.lexNamesRow.wideKeys == (Tryz.f5.params.toList ++ (OpenSpec.ofChange Rows.lexNamesSpec).bare.plain.varTypes Tryz.pinned.checked.prog ++ Tryz.f5.resultTypes.toList).any (Tryz.pinned.checked.prog.wideKeysFrom ·))) = true := by kernel_rfl
theorem lexNames_j18 : ((OpenSpec.ofChange Rows.lexNamesSpec).bare.vars.all (Tryz.pinned.checked.prog.varReadable ·)) = true := by kernel_rfl
theorem lexNames_j19 : (Tryz.f5.resultTypes.all (fun t => Tryz.pinned.checked.prog.readableRec t && decide (t < Tryz.pinned.checked.prog.types.size))) = true := by kernel_rfl
theorem lexNames_j20 : ((Rows.lexNamesRow.ifacesOut == Tryz.f5.resultTypes.toList.any (Tryz.pinned.checked.prog.ifacesRec ·))) = true := by kernel_rfl
theorem lexNames_j21 : ((Rows.lexNamesRow.loopsOut == Tryz.f5.resultTypes.toList.any (Tryz.pinned.checked.prog.loopsFrom ·))) = true := by kernel_rfl
theorem lexNames_j22 : ((Rows.lexNamesRow.plainKeys == Tryz.pinned.checked.prog.plainKeys)) = true := by kernel_rfl
theorem lexNames_j23 : (Rows.lexNamesRow.shortTexts.isNone) = true := by kernel_rfl
theorem lexNames_j24 : (Tryz.pinned.checked.prog.stopsHeard) = true := by kernel_rfl
theorem lexNames_j25 : (Tryz.pinned.checked.prog.mayEnter) = true := by kernel_rfl
theorem lexNames_j26 : ((Rows.lexNamesRow.lifted == Tryz.pinned.checked.prog.liftsFinal)) = true := by kernel_rfl
theorem lexNames_j27 : ((Tryz.pinned.checked.prog.make == some Rows.lexNamesRow.make)) = true := by kernel_rfl
theorem lexNames_j28 : ((Rows.lexNamesRow.kinds == (if Rows.lexNamesRow.domain.isEmpty then [] else Tryz.f5.params.toList.map fun t => match Tryz.pinned.checked.prog.underlying t with | some (.int k) => some k | _ => none))) = true := by kernel_rfl
theorem lexNames_j29 : ((Rows.lexNamesRow.pinned == Rows.lexNamesRow.pinnedBy)) = true := by kernel_rfl
theorem lexNames_j30 : ((Rows.lexNamesRow.veiled == (Tryz.f5.params.toList ++ (OpenSpec.ofChange Rows.lexNamesSpec).bare.plain.varTypes Tryz.pinned.checked.prog ++ Tryz.f5.resultTypes.toList).any (Tryz.pinned.checked.prog.veiledRec ·))) = true := by kernel_rfl
theorem lexNames_j31 : (Rows.lexNamesRow.veiledFits Tryz.pinned.checked.prog Tryz.f5.params.toList (Tryz.f5.params.toList ++ (OpenSpec.ofChange Rows.lexNamesSpec).bare.plain.varTypes Tryz.pinned.checked.prog ++ Tryz.f5.resultTypes.toList)) = true := by kernel_rfl
theorem and_mk {a b : Bool} (h1 : a = true) (h2 : b = true) : (a && b) = true := by rw [h1, h2]; rfl

set_option maxRecDepth 100000 in
/-- The closed facts on the row, one by one (together they ask too much memory). -/
theorem lexNames_facts : joinedFacts Tryz.pinned.checked.prog 5 Tryz.f5 (OpenSpec.ofChange Rows.lexNamesSpec).bare Rows.lexNamesRow = true := by
  unfold joinedFacts
  exact and_mk (and_mk (and_mk (and_mk (and_mk (and_mk (and_mk (and_mk (and_mk (and_mk (and_mk (and_mk (and_mk (and_mk (and_mk (and_mk (and_mk (and_mk (and_mk (and_mk (and_mk (and_mk (and_mk (and_mk (and_mk (and_mk (and_mk (and_mk (and_mk (and_mk (and_mk lexNames_j0 lexNames_j1) lexNames_j2) lexNames_j3) lexNames_j4) lexNames_j5) lexNames_j6) lexNames_j7) lexNames_j8) lexNames_j9) lexNames_j10) lexNames_j11) lexNames_j12) lexNames_j13) lexNames_j14) lexNames_j15) lexNames_j16) lexNames_j17) lexNames_j18) lexNames_j19) lexNames_j20) lexNames_j21) lexNames_j22) lexNames_j23) lexNames_j24) lexNames_j25) lexNames_j26) lexNames_j27) lexNames_j28) lexNames_j29) lexNames_j30) lexNames_j31

theorem lexNames_looks : true = Tryz.pinned.checked.prog.looks [] := by kernel_rfl
theorem lexNames_goes : false = Rows.lexNamesRow.goesBy Tryz.pinned.checked.prog := by kernel_rfl
theorem lexNames_text : Rows.lexNamesRow.wfByText (OpenSpec.ofChange Rows.lexNamesSpec) = true := by kernel_rfl
theorem lexNames_at : Tryz.pinned.checked.prog.funcNamed Rows.lexNamesRow.func = some 5 := by kernel_rfl

theorem lexNames_said : Rows.LexNamesSaid :=
  OpenClaim.holds_of_cond 5 Tryz.f5 rfl rfl rfl rfl rfl rfl rfl ⟨rfl, rfl, rfl, rfl, rfl⟩ rfl rfl rfl rfl rfl lexNames_at Tryz.func5 lexNames_facts
    (of_decide_eq_true (by kernel_rfl)) (by unfold Func.isWrapper; first | (rw [if_pos (by decide +kernel)]; kernel_rfl) | (rw [if_neg (by decide +kernel)]; exact ⟨rfl, rfl⟩))
    (fun os started H enc _ F => by rw [OpenClaim.pre_eq_preRow]; exact lexNames_lifted os started H enc F)

theorem lexNames_plain (f : FuncId) (fn : Func) (hf : Tryz.pinned.checked.prog.funcNamed "quadrille/quadrillelaw11.LexNames" = some f) (hfn : Tryz.pinned.checked.prog.funcs[f]? = some fn) :
    true = Tryz.pinned.checked.prog.looks [] ∧ ∀ (j : Nat) t, fn.params[j]? = some t → Tryz.pinned.checked.prog.wantsStandIn t = false := by
  obtain rfl : f = 5 := Option.some.inj ((show Tryz.prog.funcNamed "quadrille/quadrillelaw11.LexNames" = some 5 by kernel_rfl).symm.trans hf) |>.symm
  obtain rfl : fn = Tryz.f5 := (Option.some.inj (Tryz.func5.symm.trans hfn)).symm
  refine ⟨lexNames_looks, fun j t ht => ?_⟩
  rw [Tryz.params5] at ht
  simp at ht

/-- THE CARD. -/
theorem lexNames_card : Rows.LexNamesCardSaid :=
  Claim7.holds_tied_plain_at .later [] _ _ _ _ lexNames_said (fun _ h => by cases h) lexNames_text (fun _ h => by cases h) lexNames_row_tie rfl ⟨rfl, rfl⟩ (by kernel_rfl) rfl lexNames_plain lexNames_goes

#print axioms lexNames_card
end Go.Proofs.YtdapaocfidjihaaGreatDoor
