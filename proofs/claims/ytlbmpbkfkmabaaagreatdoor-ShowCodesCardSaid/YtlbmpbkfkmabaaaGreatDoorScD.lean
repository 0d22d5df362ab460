/-
  ShowCodes (layer 06): whatever the arguments: the law answers true; each argument reads as it did. No condition.
-/
import Derived.Test.YtlbmpbkfkmabaaaGreatDoorVaI
import Derived.Test.YtlbmpbkfkmabaaaGreatDoorSlG
import Derived.Test.YtlbmpbkfkmabaaaGreatDoorScE
namespace Go.Proofs.YtlbmpbkfkmabaaaGreatDoor
open Go.ChangeShapes Go.WideShapes Go.ChangeAt Go.RowKit

set_option maxRecDepth 100000 in
theorem showCodes_contract (H : Type) (enc : TypeId × Value → H) (W : World) (base : Nat) (args : Array Value) (ds gs : List (DataW H)) (before : List MemPlace)
    (hval : ∀ (j : Nat) t v, Tryz.f3.params[j]? = some t → args[j]? = some v → Value.okWide Tryz.prog W .any base t v)
    (hW : DataW.Whole enc Tryz.prog Tryz.f3.params.toList Rows.showCodesSpec.vars false W args.toList ds gs before) (hz : (DataW.weightsEach Tryz.prog (Tryz.f3.params.toList ++ (OpenSpec.ofChange Rows.showCodesSpec).bare.plain.varTypes Tryz.prog) (ds ++ gs)).all (· ≤ reachBytes) = true) (hG : J0.I W) :
    Calls Tryz.prog 3 args W fun e W' => ∃ v, e = .returned v ∧ Rows.showCodesSpec.post enc Tryz.prog Tryz.f3 false true false false W args v W' := by
  have hW' := hW
  obtain ⟨p, q, hA0, hV, rfl, hfz, hnd⟩ := hW
  have hA : DataW.TrodAll enc Tryz.prog W 0 (fun _ => true) true Tryz.f3.params.toList args.toList ds p := hA0
  rw [Tryz.params3] at hA hval
  obtain ⟨v0, vs0, d0, ds0, p0, q0, hargs, rfl, rfl, h0, r0⟩ := trodAll_cons hA
  obtain ⟨v1, vs1, d1, ds1, p1, q1, rfl, rfl, rfl, h1, r1⟩ := trodAll_cons r0
  obtain ⟨rfl, rfl, rfl⟩ := trodAll_nil r1
  obtain rfl : args = #[v0, v1] := by cases args; simp_all
  obtain ⟨rfl, rfl⟩ := trodVars_none hV
  obtain ⟨F0, n0, o0, c0, l0, _, e0⟩ := open_fam (P := Tryz.prog) fmtV fmtD (fun _ => True) Tryz.underlying22 (show Tryz.prog.cellsOf 28 = 4 by kernel_rfl) (hval 0 _ v0 rfl rfl) h0 fmt_elem
  obtain ⟨F1, n1, o1, c1, l1, _, e1⟩ := open_fam (P := Tryz.prog) strV strD (fun _ => True) Tryz.underlying23 (show Tryz.prog.cellsOf 9 = 1 by kernel_rfl) (hval 1 _ v1 rfl rfl) h1 str_elem
  rw [Tryz.params3] at hz
  have z1 : ∀ j, j < n1 → (F1 j).length ≤ 140737488351232 := by
    rcases e1 with ⟨_, rfl⟩ | ⟨rest, rfl⟩
    · intro j hj; omega
    · exact weights_texts Tryz.underlying23 (weights_skip hz)
  clear hA0
  simp only [List.append_nil] at hW'
  have hsem := (showCodes_all ⟨fun i => (F0 i).1, fun i => (F0 i).2.1, fun i => (F0 i).2.2.1, fun i => (F0 i).2.2.2⟩ n0 o0 F1 n1 o1 (Nat.le_trans l0 (by decide)) (fun i hi => by have := z1 i hi; omega)).2 W [v0, v1] hG (.cons c0 (.cons c1 .nil))
  have hT : ∀ t ∈ Tryz.f3.params.toList, t < Tryz.prog.types.size := by
    rw [Tryz.params3]
    intro t ht
    simp only [List.mem_cons, List.not_mem_nil, or_false] at ht
    rcases ht with rfl | rfl <;> exact of_decide_eq_true (by kernel_rfl)
  refine hsem.mono fun e' W' ⟨us', he', hb, hc, _⟩ => ?_
  obtain ⟨y, ys, rfl, ⟨rfl, _⟩, hnil⟩ := hc.cons_inv
  obtain rfl := hnil.nil_inv
  subst he'
  exact ⟨_, rfl, post_of_reads kids slices_full hT rfl hW' (fun _ _ _ => trodAll_cons_mk (shut_bool Tryz.underlying4 _) trodAll_mk0) rfl rfl hb (ok_one (by kernel_rfl) rfl (okWide_bool_mk Tryz.underlying4 _))⟩

theorem showCodes_laid (os : Os) : laidMet Tryz.prog Rows.showCodesRow.laid ((laidWorld os).forCall (fun _ _ => 0) ⟨#[], #[.slice none 0 0, .slice none 0 0], []⟩).memory :=
  laidMet_of_run' 8 (by kernel_rfl) (by kernel_rfl)

theorem showCodes_reads (os : Os) {H : Type} (enc : TypeId × Value → H) : ∃ places, DataW.whole enc Tryz.prog ((laidWorld os).forCall (fun _ _ => 0) ⟨#[], #[.slice none 0 0, .slice none 0 0], []⟩).memory Tryz.f3.params.toList Rows.showCodesSpec.vars false
    #[Value.slice none 0 0, .slice none 0 0].toList 8 = some ([.nil, .nil], [], places) :=
  ⟨[], by kernel_rfl⟩

set_option maxRecDepth 100000 in
theorem showCodes_lifted (os : Os) (started : os.Started) (H : Type) (enc : TypeId × Value → H) (F : Stop.Interp) :
    ReturnsInHanded {} Tryz.checked os 3 .any ((OpenSpec.ofChange Rows.showCodesSpec).preRow enc Tryz.prog Tryz.f3 Rows.showCodesRow.domain false Rows.showCodesRow.laid) (((OpenSpec.ofChange Rows.showCodesSpec).at F).post enc Tryz.prog Tryz.f3 false true false false) := by
  obtain ⟨places, hx⟩ := showCodes_reads os enc
  refine returnsInHanded_of_row (C := Tryz.checked) (s := OpenSpec.ofChange Rows.showCodesSpec) own started (by kernel_rfl) Tryz.func3
    (witness_row_at (enc := enc) (C := Tryz.checked) false (laidWorld os) #[.slice none 0 0, .slice none 0 0] rfl (by kernel_rfl) (by kernel_rfl) (by kernel_rfl)
      (OpenSpec.preRow_of_cond 8 hx (by kernel_rfl) (fun k hk => by cases hk) (by kernel_rfl) (showCodes_laid os))) ?_
  intro W base args ds gs before hval hW _ _ hz hL hS _
  exact showCodes_contract H enc W base args ds gs before hval hW hz (inv_of_laid hL hS)

theorem showCodes_j0 : (Rows.showCodesRow.wf (OpenSpec.ofChange (OpenSpec.ofChange Rows.showCodesSpec).bare)) = true := by kernel_rfl
theorem showCodes_j1 : (laidOutB Tryz.pinned.checked.prog) = true := by kernel_rfl
theorem showCodes_j2 : (mapsRowed Tryz.pinned.checked.prog) = true := by kernel_rfl
theorem showCodes_j3 : (Tryz.f3.params.all (Tryz.pinned.checked.prog.readableRec ·)) = true := by kernel_rfl
theorem showCodes_j4 : (namedTie Tryz.pinned.checked.prog Rows.showCodesRow.named (OpenSpec.ofChange Rows.showCodesSpec).bare.vars) = true := by kernel_rfl
theorem showCodes_j5 : ((Rows.showCodesRow.stops == [])) = true := by kernel_rfl
theorem showCodes_j6 : ((Tryz.pinned.checked.prog.stops == [])) = true := by kernel_rfl
theorem showCodes_j7 : ((Rows.showCodesRow.knobs == [])) = true := by kernel_rfl
theorem showCodes_j8 : ((Tryz.pinned.checked.prog.stopKnobs == [])) = true := by kernel_rfl
theorem showCodes_j9 : ((Rows.showCodesRow.inPlace == Tryz.pinned.checked.prog.inPlace 3)) = true := by kernel_rfl
theorem showCodes_j10 : ((Rows.showCodesRow.unfollowed == Tryz.pinned.checked.prog.unfollowed 3)) = true := by kernel_rfl
theorem showCodes_j11 : ((Rows.showCodesRow.recurses == Tryz.pinned.checked.prog.recurses 3)) = true := by kernel_rfl
theorem showCodes_j12 : ((Rows.showCodesRow.named == Tryz.pinned.checked.prog.varsNamed 3)) = true := by kernel_rfl
theorem showCodes_j13 : ((Rows.showCodesRow.maps == (Tryz.f3.params.toList ++ (OpenSpec.ofChange Rows.showCodesSpec).bare.plain.varTypes Tryz.pinned.checked.prog).any (Tryz.pinned.checked.prog.mapsRec ·))) = true := by kernel_rfl
theorem showCodes_j14 : ((Rows.showCodesRow.ifaces == (Tryz.f3.params.toList ++ (OpenSpec.ofChange Rows.showCodesSpec).bare.plain.varTypes Tryz.pinned.checked.prog).any (Tryz.pinned.checked.prog.ifacesRec ·))) = true := by kernel_rfl
theorem showCodes_j15 : ((Rows.showCodesRow.mapsOut == Tryz.pinned.checked.prog.mapsAmong Tryz.f3.resultTypes.toList)) = true := by kernel_rfl
theorem showCodes_j16 : ((Rows.showCodesRow.loops == (Tryz.f3.params.toList ++ (OpenSpec.ofChange Rows.showCodesSpec).bare.plain.varTypes Tryz.pinned.checked.prog).any (Tryz.pinned.checked.prog.loopsFrom ·))) = true := by kernel_rfl
theorem showCodes_j17 : ((Rows.showCodesRow.wideKeys == (Tryz.f3.params.toList ++ (OpenSpec.ofChange Rows.showCodesSpec).bare.plain.varTypes Tryz.pinned.checked.prog ++ Tryz.f3.resultTypes.toList).any (Tryz.pinned.checked.prog.wideKeysFrom ·))) = true := by kernel_rfl
theorem showCodes_j18 : ((OpenSpec.ofChange Rows.showCodesSpec).bare.vars.all (Tryz.pinned.checked.prog.varReadable ·)) = true := by kernel_rfl
theorem showCodes_j19 : (Tryz.f3.resultTypes.all (fun t => Tryz.pinned.checked.prog.readableRec t && decide (t < Tryz.pinned.checked.prog.types.size))) = true := by kernel_rfl
theorem showCodes_j20 : ((Rows.showCodesRow.ifacesOut == Tryz.f3.resultTypes.toList.any (Tryz.pinned.checked.prog.ifacesRec ·))) = true := by kernel_rfl
theorem showCodes_j21 : ((Rows.showCodesRow.loopsOut == Tryz.f3.resultTypes.toList.any (Tryz.pinned.checked.prog.loopsFrom ·))) = true := by kernel_rfl
theorem showCodes_j22 : ((Rows.showCodesRow.plainKeys == Tryz.pinned.checked.prog.plainKeys)) = true := by kernel_rfl
theorem showCodes_j23 : (Rows.showCodesRow.shortTexts.isNone) = true := by kernel_rfl
theorem showCodes_j24 : (Tryz.pinned.checked.prog.stopsHeard) = true := by kernel_rfl
theorem showCodes_j25 : (Tryz.pinned.checked.prog.mayEnter) = true := by kernel_rfl
theorem showCodes_j26 : ((Rows.showCodesRow.lifted == Tryz.pinned.checked.prog.liftsFinal)) = true := by kernel_rfl
theorem showCodes_j27 : ((Tryz.pinned.checked.prog.make == some Rows.showCodesRow.make)) = true := by kernel_rfl
theorem showCodes_j28 : ((Rows.showCodesRow.kinds == (if Rows.showCodesRow.domain.isEmpty then [] else Tryz.f3.params.toList.map fun t => match Tryz.pinned.checked.prog.underlying t with | some (.int k) => some k | _ => none))) = true := by kernel_rfl
theorem showCodes_j29 : ((Rows.showCodesRow.pinned == Rows.showCodesRow.pinnedBy)) = true := by kernel_rfl
theorem showCodes_j30 : ((Rows.showCodesRow.veiled == (Tryz.f3.params.toList ++ (OpenSpec.ofChange Rows.showCodesSpec).bare.plain.varTypes Tryz.pinned.checked.prog ++ Tryz.f3.resultTypes.toList).any (Tryz.pinned.checked.prog.veiledRec ·))) = true := by kernel_rfl
theorem showCodes_j31 : (Rows.showCodesRow.veiledFits Tryz.pinned.checked.prog Tryz.f3.params.toList (Tryz.f3.params.toList ++ (OpenSpec.ofChange Rows.showCodesSpec).bare.plain.varTypes Tryz.pinned.checked.prog ++ Tryz.f3.resultTypes.toList)) = true := by kernel_rfl
theorem and_mk {a b : Bool} (h1 : a = true) (h2 : b = true) : (a && b) = true := by rw [h1, h2]; rfl

set_option maxRecDepth 100000 in
/-- The closed facts on the row, one by one (together they ask too much memory). -/
theorem showCodes_facts : joinedFacts Tryz.pinned.checked.prog 3 Tryz.f3 (OpenSpec.ofChange Rows.showCodesSpec).bare Rows.showCodesRow = true := by
  unfold joinedFacts
  exact and_mk (and_mk (and_mk (and_mk (and_mk (and_mk (and_mk (and_mk (and_mk (and_mk (and_mk (and_mk (and_mk (and_mk (and_mk (and_mk (and_mk (and_mk (and_mk (and_mk (and_mk (and_mk (and_mk (and_mk (and_mk (and_mk (and_mk (and_mk (and_mk (and_mk (and_mk showCodes_j0 showCodes_j1) showCodes_j2) showCodes_j3) showCodes_j4) showCodes_j5) showCodes_j6) showCodes_j7) showCodes_j8) showCodes_j9) showCodes_j10) showCodes_j11) showCodes_j12) showCodes_j13) showCodes_j14) showCodes_j15) showCodes_j16) showCodes_j17) showCodes_j18) showCodes_j19) showCodes_j20) showCodes_j21) showCodes_j22) showCodes_j23) showCodes_j24) showCodes_j25) showCodes_j26) showCodes_j27) showCodes_j28) showCodes_j29) showCodes_j30) showCodes_j31

theorem showCodes_looks : true = Tryz.pinned.checked.prog.looks [] := by kernel_rfl
theorem showCodes_goes : false = Rows.showCodesRow.goesBy Tryz.pinned.checked.prog := by kernel_rfl
theorem showCodes_text : Rows.showCodesRow.wfByText (OpenSpec.ofChange Rows.showCodesSpec) = true := by kernel_rfl
theorem showCodes_at : Tryz.pinned.checked.prog.funcNamed Rows.showCodesRow.func = some 3 := by kernel_rfl

theorem showCodes_said : Rows.ShowCodesSaid :=
  OpenClaim.holds_of_cond 3 Tryz.f3 rfl rfl rfl rfl rfl rfl rfl ⟨rfl, rfl, rfl, rfl, rfl⟩ rfl rfl rfl rfl rfl showCodes_at Tryz.func3 showCodes_facts
    (of_decide_eq_true (by kernel_rfl)) (by unfold Func.isWrapper; first | (rw [if_pos (by decide +kernel)]; kernel_rfl) | (rw [if_neg (by decide +kernel)]; exact ⟨rfl, rfl⟩))
    (fun os started H enc _ F => by rw [OpenClaim.pre_eq_preRow]; exact showCodes_lifted os started H enc F)

theorem showCodes_plain (f : FuncId) (fn : Func) (hf : Tryz.pinned.checked.prog.funcNamed "quadrille/quadrillelaw06.ShowCodes" = some f) (hfn : Tryz.pinned.checked.prog.funcs[f]? = some fn) :
    true = Tryz.pinned.checked.prog.looks [] ∧ ∀ (j : Nat) t, fn.params[j]? = some t → Tryz.pinned.checked.prog.wantsStandIn t = false := by
  obtain rfl : f = 3 := Option.some.inj ((show Tryz.prog.funcNamed "quadrille/quadrillelaw06.ShowCodes" = some 3 by kernel_rfl).symm.trans hf) |>.symm
  obtain rfl : fn = Tryz.f3 := (Option.some.inj (Tryz.func3.symm.trans hfn)).symm
  refine ⟨showCodes_looks, fun j t ht => ?_⟩
  rw [Tryz.params3] at ht
  have hm := Array.mem_of_getElem? ht
  simp only [List.mem_toArray, List.mem_cons, List.not_mem_nil, or_false] at hm
  rcases hm with rfl | rfl
  · exact (show Tryz.prog.wantsStandIn 22 = false by kernel_rfl)
  · exact (show Tryz.prog.wantsStandIn 23 = false by kernel_rfl)

/-- THE CARD. -/
theorem showCodes_card : Rows.ShowCodesCardSaid :=
  Claim7.holds_tied_plain_at .later [] _ _ _ _ showCodes_said (fun _ h => by cases h) showCodes_text (fun _ h => by cases h) showCodes_row_tie rfl ⟨rfl, rfl⟩ (by kernel_rfl) rfl showCodes_plain showCodes_goes

#print axioms showCodes_card
end Go.Proofs.YtlbmpbkfkmabaaaGreatDoor
