/-
  ShowReads (layer 06): whatever the arguments: the law answers true; each argument reads as it did. No condition.
-/
import Derived.Test.YtpipgieehnnmcaaGreatDoorVaI
import Derived.Test.YtpipgieehnnmcaaGreatDoorShO
namespace Go.Proofs.YtpipgieehnnmcaaGreatDoor
open Go.ChangeShapes Go.WideShapes Go.ChangeAt Go.RowKit

set_option maxRecDepth 100000 in
theorem showReads_contract (H : Type) (enc : TypeId × Value → H) (W : World) (base : Nat) (args : Array Value) (ds gs : List (DataW H)) (before : List MemPlace)
    (hval : ∀ (j : Nat) t v, Tryz.f8.params[j]? = some t → args[j]? = some v → Value.okWide Tryz.prog W .any base t v)
    (hW : DataW.Whole enc Tryz.prog Tryz.f8.params.toList Rows.showReadsSpec.vars false W args.toList ds gs before) (hz : (DataW.weightsEach Tryz.prog (Tryz.f8.params.toList ++ (OpenSpec.ofChange Rows.showReadsSpec).bare.plain.varTypes Tryz.prog) (ds ++ gs)).all (· ≤ reachBytes) = true) (hG : J0.I W) :
    Calls Tryz.prog 8 args W fun e W' => ∃ v, e = .returned v ∧ Rows.showReadsSpec.post enc Tryz.prog Tryz.f8 false true false false W args v W' := by
  have hW' := hW
  obtain ⟨p, q, hA0, hV, rfl, hfz, hnd⟩ := hW
  have hA : DataW.TrodAll enc Tryz.prog W 0 (fun _ => true) true Tryz.f8.params.toList args.toList ds p := hA0
  rw [Tryz.params8] at hA hval
  obtain ⟨v0, vs0, d0, ds0, p0, q0, hargs, rfl, rfl, h0, r0⟩ := trodAll_cons hA
  obtain ⟨v1, vs1, d1, ds1, p1, q1, rfl, rfl, rfl, h1, r1⟩ := trodAll_cons r0
  obtain ⟨rfl, rfl, rfl⟩ := trodAll_nil r1
  obtain rfl : args = #[v0, v1] := by cases args; simp_all
  obtain ⟨rfl, rfl⟩ := trodVars_none hV
  obtain ⟨k0, p0, g0, u0, rfl, rfl, rfl, w0_0, w0_1, w0_2⟩ := open_fmt (hval 0 _ v0 rfl rfl) h0
  obtain ⟨s1, rfl, rfl, rfl, w1⟩ := Go.ChangeMaps.open_string Tryz.underlying9 (hval 1 _ v1 rfl rfl) h1
  obtain ⟨⟨s1⟩⟩ := s1
  rw [Tryz.params8] at hz
  have z1 := weights_str (weights_skip hz)
  clear hA0
  simp only [List.append_nil] at hW'
  have he : Enters Tryz.prog 8 := enters_of Tryz.func8 (by kernel_rfl) (c := _) rfl
  refine (Pure.calls (showReads_pure k0 p0 g0 u0 s1 z1) he W hG).mono fun e' W' ⟨he', hb⟩ => ?_
  subst he'
  exact ⟨_, rfl, post_of_below hW' (fun _ _ _ => trodAll_cons_mk (shut_bool Tryz.underlying4 _) trodAll_mk0)
    (fun _ => trodAll_cons_mk (shut_fmt w0_0 w0_1 w0_2) (trodAll_cons_mk (Go.ChangeMaps.shut_string Tryz.underlying9 w1) trodAll_mk0)) (fun _ => rfl) hb (ok_one (by kernel_rfl) rfl (okWide_bool_mk Tryz.underlying4 _))⟩

theorem showReads_laid (os : Os) : laidMet Tryz.prog Rows.showReadsRow.laid ((laidWorld os).forCall (fun _ _ => 0) ⟨#[], #[.agg ⟨[.int .i64 0, .int .i64 0, .bool false, .int .i64 0]⟩, .string ⟨#[]⟩], []⟩).memory :=
  laidMet_of_run' 8 (by kernel_rfl) (by kernel_rfl)

theorem showReads_reads (os : Os) {H : Type} (enc : TypeId × Value → H) : ∃ places, DataW.whole enc Tryz.prog ((laidWorld os).forCall (fun _ _ => 0) ⟨#[], #[.agg ⟨[.int .i64 0, .int .i64 0, .bool false, .int .i64 0]⟩, .string ⟨#[]⟩], []⟩).memory Tryz.f8.params.toList Rows.showReadsSpec.vars false
    #[Value.agg ⟨[.int .i64 0, .int .i64 0, .bool false, .int .i64 0]⟩, .string ⟨#[]⟩].toList 8 = some ([dFm 0 0 false 0, .lit (.string [])], [], places) :=
  ⟨[], by kernel_rfl⟩

set_option maxRecDepth 100000 in
theorem showReads_lifted (os : Os) (started : os.Started) (H : Type) (enc : TypeId × Value → H) (F : Stop.Interp) :
    ReturnsInHanded {} Tryz.checked os 8 .any ((OpenSpec.ofChange Rows.showReadsSpec).preRow enc Tryz.prog Tryz.f8 Rows.showReadsRow.domain false Rows.showReadsRow.laid) (((OpenSpec.ofChange Rows.showReadsSpec).at F).post enc Tryz.prog Tryz.f8 false true false false) := by
  obtain ⟨places, hx⟩ := showReads_reads os enc
  refine returnsInHanded_of_row (C := Tryz.checked) (s := OpenSpec.ofChange Rows.showReadsSpec) own started (by kernel_rfl) Tryz.func8
    (witness_row_at (enc := enc) (C := Tryz.checked) false (laidWorld os) #[.agg ⟨[.int .i64 0, .int .i64 0, .bool false, .int .i64 0]⟩, .string ⟨#[]⟩] rfl (by kernel_rfl) (by kernel_rfl) (by kernel_rfl)
      (OpenSpec.preRow_of_cond 8 hx (by kernel_rfl) (fun k hk => by cases hk) (by kernel_rfl) (showReads_laid os))) ?_
  intro W base args ds gs before hval hW _ _ hz hL hS _
  exact showReads_contract H enc W base args ds gs before hval hW hz (inv_of_laid hL hS)

theorem showReads_j0 : (Rows.showReadsRow.wf (OpenSpec.ofChange (OpenSpec.ofChange Rows.showReadsSpec).bare)) = true := by kernel_rfl
theorem showReads_j1 : (laidOutB Tryz.pinned.checked.prog) = true := by kernel_rfl
theorem showReads_j2 : (mapsRowed Tryz.pinned.checked.prog) = true := by kernel_rfl
theorem showReads_j3 : (Tryz.f8.params.all (Tryz.pinned.checked.prog.readableRec ·)) = true := by kernel_rfl
theorem showReads_j4 : (namedTie Tryz.pinned.checked.prog Rows.showReadsRow.named (OpenSpec.ofChange Rows.showReadsSpec).bare.vars) = true := by kernel_rfl
theorem showReads_j5 : ((Rows.showReadsRow.stops == [])) = true := by kernel_rfl
theorem showReads_j6 : ((Tryz.pinned.checked.prog.stops == [])) = true := by kernel_rfl
theorem showReads_j7 : ((Rows.showReadsRow.knobs == [])) = true := by kernel_rfl
theorem showReads_j8 : ((Tryz.pinned.checked.prog.stopKnobs == [])) = true := by kernel_rfl
theorem showReads_j9 : ((Rows.showReadsRow.inPlace == Tryz.pinned.checked.prog.inPlace 8)) = true := by kernel_rfl
theorem showReads_j10 : ((Rows.showReadsRow.unfollowed == Tryz.pinned.checked.prog.unfollowed 8)) = true := by kernel_rfl
theorem showReads_j11 : ((Rows.showReadsRow.recurses == Tryz.pinned.checked.prog.recurses 8)) = true := by kernel_rfl
theorem showReads_j12 : ((Rows.showReadsRow.named == Tryz.pinned.checked.prog.varsNamed 8)) = true := by kernel_rfl
theorem showReads_j13 : ((Rows.showReadsRow.maps == (Tryz.f8.params.toList ++ (OpenSpec.ofChange Rows.showReadsSpec).bare.plain.varTypes Tryz.pinned.checked.prog).any (Tryz.pinned.checked.prog.mapsRec ·))) = true := by kernel_rfl
theorem showReads_j14 : ((Rows.showReadsRow.ifaces == (Tryz.f8.params.toList ++ (OpenSpec.ofChange Rows.showReadsSpec).bare.plain.varTypes Tryz.pinned.checked.prog).any (Tryz.pinned.checked.prog.ifacesRec ·))) = true := by kernel_rfl
theorem showReads_j15 : ((Rows.showReadsRow.mapsOut == Tryz.pinned.checked.prog.mapsAmong Tryz.f8.resultTypes.toList)) = true := by kernel_rfl
theorem showReads_j16 : ((Rows.showReadsRow.loops == (Tryz.f8.params.toList ++ (OpenSpec.ofChange Rows.showReadsSpec).bare.plain.varTypes Tryz.pinned.checked.prog).any (Tryz.pinned.checked.prog.loopsFrom ·))) = true := by kernel_rfl
theorem showReads_j17 : ((Rows.showReadsRow.wideKeys == (Tryz.f8.params.toList ++ (OpenSpec.ofChange Rows.showReadsSpec).bare.plain.varTypes Tryz.pinned.checked.prog ++ Tryz.f8.resultTypes.toList).any (Tryz.pinned.checked.prog.wideKeysFrom ·))) = true := by kernel_rfl
theorem showReads_j18 : ((OpenSpec.ofChange Rows.showReadsSpec).bare.vars.all (Tryz.pinned.checked.prog.varReadable ·)) = true := by kernel_rfl
theorem showReads_j19 : (Tryz.f8.resultTypes.all (fun t => Tryz.pinned.checked.prog.readableRec t && decide (t < Tryz.pinned.checked.prog.types.size))) = true := by kernel_rfl
theorem showReads_j20 : ((Rows.showReadsRow.ifacesOut == Tryz.f8.resultTypes.toList.any (Tryz.pinned.checked.prog.ifacesRec ·))) = true := by kernel_rfl
theorem showReads_j21 : ((Rows.showReadsRow.loopsOut == Tryz.f8.resultTypes.toList.any (Tryz.pinned.checked.prog.loopsFrom ·))) = true := by kernel_rfl
theorem showReads_j22 : ((Rows.showReadsRow.plainKeys == Tryz.pinned.checked.prog.plainKeys)) = true := by kernel_rfl
theorem showReads_j23 : (Rows.showReadsRow.shortTexts.isNone) = true := by kernel_rfl
theorem showReads_j24 : (Tryz.pinned.checked.prog.stopsHeard) = true := by kernel_rfl
theorem showReads_j25 : (Tryz.pinned.checked.prog.mayEnter) = true := by kernel_rfl
theorem showReads_j26 : ((Rows.showReadsRow.lifted == Tryz.pinned.checked.prog.liftsFinal)) = true := by kernel_rfl
theorem showReads_j27 : ((Tryz.pinned.checked.prog.make == some Rows.showReadsRow.make)) = true := by kernel_rfl
theorem showReads_j28 : ((Rows.showReadsRow.kinds == (if Rows.showReadsRow.domain.isEmpty then [] else Tryz.f8.params.toList.map fun t => match Tryz.pinned.checked.prog.underlying t with | some (.int k) => some k | _ => none))) = true := by kernel_rfl
theorem showReads_j29 : ((Rows.showReadsRow.pinned == Rows.showReadsRow.pinnedBy)) = true := by kernel_rfl
theorem showReads_j30 : ((Rows.showReadsRow.veiled == (Tryz.f8.params.toList ++ (OpenSpec.ofChange Rows.showReadsSpec).bare.plain.varTypes Tryz.pinned.checked.prog ++ Tryz.f8.resultTypes.toList).any (Tryz.pinned.checked.prog.veiledRec ·))) = true := by kernel_rfl
theorem showReads_j31 : (Rows.showReadsRow.veiledFits Tryz.pinned.checked.prog Tryz.f8.params.toList (Tryz.f8.params.toList ++ (OpenSpec.ofChange Rows.showReadsSpec).bare.plain.varTypes Tryz.pinned.checked.prog ++ Tryz.f8.resultTypes.toList)) = true := by kernel_rfl
theorem and_mk {a b : Bool} (h1 : a = true) (h2 : b = true) : (a && b) = true := by rw [h1, h2]; rfl

set_option maxRecDepth 100000 in
/-- The closed facts on the row, one by one (together they ask too much memory). -/
theorem showReads_facts : joinedFacts Tryz.pinned.checked.prog 8 Tryz.f8 (OpenSpec.ofChange Rows.showReadsSpec).bare Rows.showReadsRow = true := by
  unfold joinedFacts
  exact and_mk (and_mk (and_mk (and_mk (and_mk (and_mk (and_mk (and_mk (and_mk (and_mk (and_mk (and_mk (and_mk (and_mk (and_mk (and_mk (and_mk (and_mk (and_mk (and_mk (and_mk (and_mk (and_mk (and_mk (and_mk (and_mk (and_mk (and_mk (and_mk (and_mk (and_mk showReads_j0 showReads_j1) showReads_j2) showReads_j3) showReads_j4) showReads_j5) showReads_j6) showReads_j7) showReads_j8) showReads_j9) showReads_j10) showReads_j11) showReads_j12) showReads_j13) showReads_j14) showReads_j15) showReads_j16) showReads_j17) showReads_j18) showReads_j19) showReads_j20) showReads_j21) showReads_j22) showReads_j23) showReads_j24) showReads_j25) showReads_j26) showReads_j27) showReads_j28) showReads_j29) showReads_j30) showReads_j31

theorem showReads_looks : true = Tryz.pinned.checked.prog.looks [] := by kernel_rfl
theorem showReads_goes : false = Rows.showReadsRow.goesBy Tryz.pinned.checked.prog := by kernel_rfl
theorem showReads_text : Rows.showReadsRow.wfByText (OpenSpec.ofChange Rows.showReadsSpec) = true := by kernel_rfl
theorem showReads_at : Tryz.pinned.checked.prog.funcNamed Rows.showReadsRow.func = some 8 := by kernel_rfl

theorem showReads_said : Rows.ShowReadsSaid :=
  OpenClaim.holds_of_cond 8 Tryz.f8 rfl rfl rfl rfl rfl rfl rfl ⟨rfl, rfl, rfl, rfl, rfl⟩ rfl rfl rfl rfl rfl showReads_at Tryz.func8 showReads_facts
    (of_decide_eq_true (by kernel_rfl)) (by unfold Func.isWrapper; first | (rw [if_pos (by decide +kernel)]; kernel_rfl) | (rw [if_neg (by decide +kernel)]; exact ⟨rfl, rfl⟩))
    (fun os started H enc _ F => by rw [OpenClaim.pre_eq_preRow]; exact showReads_lifted os started H enc F)

theorem showReads_plain (f : FuncId) (fn : Func) (hf : Tryz.pinned.checked.prog.funcNamed "quadrille/quadrillelaw06.ShowReads" = some f) (hfn : Tryz.pinned.checked.prog.funcs[f]? = some fn) :
    true = Tryz.pinned.checked.prog.looks [] ∧ ∀ (j : Nat) t, fn.params[j]? = some t → Tryz.pinned.checked.prog.wantsStandIn t = false := by
  obtain rfl : f = 8 := Option.some.inj ((show Tryz.prog.funcNamed "quadrille/quadrillelaw06.ShowReads" = some 8 by kernel_rfl).symm.trans hf) |>.symm
  obtain rfl : fn = Tryz.f8 := (Option.some.inj (Tryz.func8.symm.trans hfn)).symm
  refine ⟨showReads_looks, fun j t ht => ?_⟩
  rw [Tryz.params8] at ht
  have hm := Array.mem_of_getElem? ht
  simp only [List.mem_toArray, List.mem_cons, List.not_mem_nil, or_false] at hm
  rcases hm with rfl | rfl
  · exact (show Tryz.prog.wantsStandIn 51 = false by kernel_rfl)
  · exact (show Tryz.prog.wantsStandIn 9 = false by kernel_rfl)

/-- THE CARD. -/
theorem showReads_card : Rows.ShowReadsCardSaid :=
  Claim7.holds_tied_plain_at .later [] _ _ _ _ showReads_said (fun _ h => by cases h) showReads_text (fun _ h => by cases h) showReads_row_tie rfl ⟨rfl, rfl⟩ (by kernel_rfl) rfl showReads_plain showReads_goes

#print axioms showReads_card
end Go.Proofs.YtpipgieehnnmcaaGreatDoor
