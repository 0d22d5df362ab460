/-
  ValueCompares (layer 14): whatever the arguments: the law answers true; each argument reads as it did. No condition.
-/
import Derived.Test.YtdapaocfidjihaaGreatDoorVaI
import Derived.Test.YtdapaocfidjihaaGreatDoorVaH
namespace Go.Proofs.YtdapaocfidjihaaGreatDoor
open Go.ChangeShapes Go.WideShapes Go.ChangeAt Go.RowKit

theorem okv_of {v : VaS.Val} (h : Wfv v) : Okv v := by
  refine ⟨?_, h.s⟩
  have := h.x
  simp only [Lit.wf, decide_eq_true_eq] at this
  exact this

theorem compares_card (op : Int) (v : VaS.Val) (hv : Wfv v) (w : VaS.Val) (hw : Wfv w) : Ev.Pure Tryz.prog J0 10 [.int .i64 op, VaS.vv v, VaS.vv w] (.bool true) :=
  compares_pure op v w (okv_of hv) (okv_of hw)

set_option maxRecDepth 100000 in
theorem valueCompares_contract (H : Type) (enc : TypeId × Value → H) (W : World) (base : Nat) (args : Array Value) (ds gs : List (DataW H)) (before : List MemPlace)
    (hval : ∀ (j : Nat) t v, Tryz.f10.params[j]? = some t → args[j]? = some v → Value.okWide Tryz.prog W .any base t v)
    (hW : DataW.Whole enc Tryz.prog Tryz.f10.params.toList Rows.valueComparesSpec.vars false W args.toList ds gs before) (hG : J0.I W) :
    Calls Tryz.prog 10 args W fun e W' => ∃ v, e = .returned v ∧ Rows.valueComparesSpec.post enc Tryz.prog Tryz.f10 false true false false W args v W' := by
  have hW' := hW
  obtain ⟨p, q, hA0, hV, rfl, hfz, hnd⟩ := hW
  have hA : DataW.TrodAll enc Tryz.prog W 0 (fun _ => true) true Tryz.f10.params.toList args.toList ds p := hA0
  rw [Tryz.params10] at hA hval
  obtain ⟨v0, vs0, d0, ds0, p0, q0, hargs, rfl, rfl, h0, r0⟩ := trodAll_cons hA
  obtain ⟨v1, vs1, d1, ds1, p1, q1, rfl, rfl, rfl, h1, r1⟩ := trodAll_cons r0
  obtain ⟨v2, vs2, d2, ds2, p2, q2, rfl, rfl, rfl, h2, r2⟩ := trodAll_cons r1
  obtain ⟨rfl, rfl, rfl⟩ := trodAll_nil r2
  obtain rfl : args = #[v0, v1, v2] := by cases args; simp_all
  obtain ⟨rfl, rfl⟩ := trodVars_none hV
  obtain ⟨a0, rfl, rfl, rfl, w0⟩ := open_int Tryz.underlying3 (hval 0 _ v0 rfl rfl) h0
  obtain ⟨u1, rfl, rfl, rfl, w1⟩ := open_val (hval 1 _ v1 rfl rfl) h1
  obtain ⟨u2, rfl, rfl, rfl, w2⟩ := open_val (hval 2 _ v2 rfl rfl) h2
  clear hA0
  simp only [List.append_nil] at hW'
  have he : Enters Tryz.prog 10 := enters_of Tryz.func10 (by kernel_rfl) (c := _) rfl
  refine (Pure.calls (compares_card a0 u1 w1 u2 w2) he W hG).mono fun e' W' ⟨he', hb⟩ => ?_
  subst he'
  exact ⟨_, rfl, post_of_below hW' (fun _ _ _ => trodAll_cons_mk (shut_bool Tryz.underlying4 _) trodAll_mk0)
    (fun _ => trodAll_cons_mk (shut_int Tryz.underlying3 w0) (trodAll_cons_mk (shut_val w1) (trodAll_cons_mk (shut_val w2) trodAll_mk0))) (fun _ => rfl) hb (ok_one (by kernel_rfl) rfl (okWide_bool_mk Tryz.underlying4 _))⟩

theorem valueCompares_laid (os : Os) : laidMet Tryz.prog Rows.valueComparesRow.laid ((laidWorld os).forCall (fun _ _ => 0) ⟨#[], #[.int .i64 0, .agg ⟨[.int .i64 0, .float .f64 0, .string ⟨#[]⟩, .bool false, .int .i64 0]⟩, .agg ⟨[.int .i64 0, .float .f64 0, .string ⟨#[]⟩, .bool false, .int .i64 0]⟩], []⟩).memory :=
  laidMet_of_run' 8 (by kernel_rfl) (by kernel_rfl)

theorem valueCompares_reads (os : Os) {H : Type} (enc : TypeId × Value → H) : ∃ places, DataW.whole enc Tryz.prog ((laidWorld os).forCall (fun _ _ => 0) ⟨#[], #[.int .i64 0, .agg ⟨[.int .i64 0, .float .f64 0, .string ⟨#[]⟩, .bool false, .int .i64 0]⟩, .agg ⟨[.int .i64 0, .float .f64 0, .string ⟨#[]⟩, .bool false, .int .i64 0]⟩], []⟩).memory Tryz.f10.params.toList Rows.valueComparesSpec.vars false
    #[Value.int .i64 0, .agg ⟨[.int .i64 0, .float .f64 0, .string ⟨#[]⟩, .bool false, .int .i64 0]⟩, .agg ⟨[.int .i64 0, .float .f64 0, .string ⟨#[]⟩, .bool false, .int .i64 0]⟩].toList 8 = some ([.lit (.int .i64 0), dVal ⟨0, 0, [], false, 0⟩, dVal ⟨0, 0, [], false, 0⟩], [], places) :=
  ⟨[], by kernel_rfl⟩

set_option maxRecDepth 100000 in
theorem valueCompares_lifted (os : Os) (started : os.Started) (H : Type) (enc : TypeId × Value → H) (F : Stop.Interp) :
    ReturnsInHanded {} Tryz.checked os 10 .any ((OpenSpec.ofChange Rows.valueComparesSpec).preRow enc Tryz.prog Tryz.f10 Rows.valueComparesRow.domain false Rows.valueComparesRow.laid) (((OpenSpec.ofChange Rows.valueComparesSpec).at F).post enc Tryz.prog Tryz.f10 false true false false) := by
  obtain ⟨places, hx⟩ := valueCompares_reads os enc
  refine returnsInHanded_of_row (C := Tryz.checked) (s := OpenSpec.ofChange Rows.valueComparesSpec) own started (by kernel_rfl) Tryz.func10
    (witness_row_at (enc := enc) (C := Tryz.checked) false (laidWorld os) #[.int .i64 0, .agg ⟨[.int .i64 0, .float .f64 0, .string ⟨#[]⟩, .bool false, .int .i64 0]⟩, .agg ⟨[.int .i64 0, .float .f64 0, .string ⟨#[]⟩, .bool false, .int .i64 0]⟩] rfl (by kernel_rfl) (by kernel_rfl) (by kernel_rfl)
      (OpenSpec.preRow_of_cond 8 hx (by kernel_rfl) (fun k hk => by cases hk) (by kernel_rfl) (valueCompares_laid os))) ?_
  intro W base args ds gs before hval hW _ _ _ hL _ _
  exact valueCompares_contract H enc W base args ds gs before hval hW (inv_of_laid hL)

theorem valueCompares_j0 : (Rows.valueComparesRow.wf (OpenSpec.ofChange (OpenSpec.ofChange Rows.valueComparesSpec).bare)) = true := by kernel_rfl
theorem valueCompares_j1 : (laidOutB Tryz.pinned.checked.prog) = true := by kernel_rfl
theorem valueCompares_j2 : (mapsRowed Tryz.pinned.checked.prog) = true := by kernel_rfl
theorem valueCompares_j3 : (Tryz.f10.params.all (Tryz.pinned.checked.prog.readableRec ·)) = true := by kernel_rfl
theorem valueCompares_j4 : (namedTie Tryz.pinned.checked.prog Rows.valueComparesRow.named (OpenSpec.ofChange Rows.valueComparesSpec).bare.vars) = true := by kernel_rfl
theorem valueCompares_j5 : ((Rows.valueComparesRow.stops == [])) = true := by kernel_rfl
theorem valueCompares_j6 : ((Tryz.pinned.checked.prog.stops == [])) = true := by kernel_rfl
theorem valueCompares_j7 : ((Rows.valueComparesRow.knobs == [])) = true := by kernel_rfl
theorem valueCompares_j8 : ((Tryz.pinned.checked.prog.stopKnobs == [])) = true := by kernel_rfl
theorem valueCompares_j9 : ((Rows.valueComparesRow.inPlace == Tryz.pinned.checked.prog.inPlace 10)) = true := by kernel_rfl
theorem valueCompares_j10 : ((Rows.valueComparesRow.unfollowed == Tryz.pinned.checked.prog.unfollowed 10)) = true := by kernel_rfl
theorem valueCompares_j11 : ((Rows.valueComparesRow.recurses == Tryz.pinned.checked.prog.recurses 10)) = true := by kernel_rfl
theorem valueCompares_j12 : ((Rows.valueComparesRow.named == Tryz.pinned.checked.prog.varsNamed 10)) = true := by kernel_rfl
theorem valueCompares_j13 : ((Rows.valueComparesRow.maps == (Tryz.f10.params.toList ++ (OpenSpec.ofChange Rows.valueComparesSpec).bare.plain.varTypes Tryz.pinned.checked.prog).any (Tryz.pinned.checked.prog.mapsRec ·))) = true := by kernel_rfl
theorem valueCompares_j14 : ((Rows.valueComparesRow.ifaces == (Tryz.f10.params.toList ++ (OpenSpec.ofChange Rows.valueComparesSpec).bare.plain.varTypes Tryz.pinned.checked.prog).any (Tryz.pinned.checked.prog.ifacesRec ·))) = true := by kernel_rfl
theorem valueCompares_j15 : ((Rows.valueComparesRow.mapsOut == Tryz.pinned.checked.prog.mapsAmong Tryz.f10.resultTypes.toList)) = true := by kernel_rfl
theorem valueCompares_j16 : ((Rows.valueComparesRow.loops == (Tryz.f10.params.toList ++ (OpenSpec.ofChange Rows.valueComparesSpec).bare.plain.varTypes Tryz.pinned.checked.prog).any (Tryz.pinned.checked.prog.loopsFrom ·))) = true := by kernel_rfl
theorem valueCompares_j17 : ((Rows.valueComparesRow.wideKeys == (Tryz.f10.params.toList ++ (OpenSpec.ofChange Rows.valueComparesSpec).bare.plain.varTypes Tryz.pinned.checked.prog ++ Tryz.f10.resultTypes.toList).any (Tryz.pinned.checked.prog.wideKeysFrom ·))) = true := by kernel_rfl
theorem valueCompares_j18 : ((OpenSpec.ofChange Rows.valueComparesSpec).bare.vars.all (Tryz.pinned.checked.prog.varReadable ·)) = true := by kernel_rfl
theorem valueCompares_j19 : (Tryz.f10.resultTypes.all (fun t => Tryz.pinned.checked.prog.readableRec t && decide (t < Tryz.pinned.checked.prog.types.size))) = true := by kernel_rfl
theorem valueCompares_j20 : ((Rows.valueComparesRow.ifacesOut == Tryz.f10.resultTypes.toList.any (Tryz.pinned.checked.prog.ifacesRec ·))) = true := by kernel_rfl
theorem valueCompares_j21 : ((Rows.valueComparesRow.loopsOut == Tryz.f10.resultTypes.toList.any (Tryz.pinned.checked.prog.loopsFrom ·))) = true := by kernel_rfl
theorem valueCompares_j22 : ((Rows.valueComparesRow.plainKeys == Tryz.pinned.checked.prog.plainKeys)) = true := by kernel_rfl
theorem valueCompares_j23 : (Rows.valueComparesRow.shortTexts.isNone) = true := by kernel_rfl
theorem valueCompares_j24 : (Tryz.pinned.checked.prog.stopsHeard) = true := by kernel_rfl
theorem valueCompares_j25 : (Tryz.pinned.checked.prog.mayEnter) = true := by kernel_rfl
theorem valueCompares_j26 : ((Rows.valueComparesRow.lifted == Tryz.pinned.checked.prog.liftsFinal)) = true := by kernel_rfl
theorem valueCompares_j27 : ((Tryz.pinned.checked.prog.make == some Rows.valueComparesRow.make)) = true := by kernel_rfl
theorem valueCompares_j28 : ((Rows.valueComparesRow.kinds == (if Rows.valueComparesRow.domain.isEmpty then [] else Tryz.f10.params.toList.map fun t => match Tryz.pinned.checked.prog.underlying t with | some (.int k) => some k | _ => none))) = true := by kernel_rfl
theorem valueCompares_j29 : ((Rows.valueComparesRow.pinned == Rows.valueComparesRow.pinnedBy)) = true := by kernel_rfl
theorem valueCompares_j30 : ((Rows.valueComparesRow.veiled == (Tryz.f10.params.toList ++ (OpenSpec.ofChange Rows.valueComparesSpec).bare.plain.varTypes Tryz.pinned.checked.prog ++ Tryz.f10.resultTypes.toList).any (Tryz.pinned.checked.prog.veiledRec ·))) = true := by kernel_rfl
theorem valueCompares_j31 : (Rows.valueComparesRow.veiledFits Tryz.pinned.checked.prog Tryz.f10.params.toList (Tryz.f10.params.toList ++ (OpenSpec.ofChange Rows.valueComparesSpec).bare.plain.varTypes Tryz.pinned.checked.prog ++ Tryz.f10.resultTypes.toList)) = true := by kernel_rfl
theorem and_mk {a b : Bool} (h1 : a = true) (h2 : b = true) : (a && b) = true := by rw [h1, h2]; rfl

set_option maxRecDepth 100000 in
/-- The closed facts on the row, one by one (together they ask too much memory). -/
theorem valueCompares_facts : joinedFacts Tryz.pinned.checked.prog 10 Tryz.f10 (OpenSpec.ofChange Rows.valueComparesSpec).bare Rows.valueComparesRow = true := by
  unfold joinedFacts
  exact and_mk (and_mk (and_mk (and_mk (and_mk (and_mk (and_mk (and_mk (and_mk (and_mk (and_mk (and_mk (and_mk (and_mk (and_mk (and_mk (and_mk (and_mk (and_mk (and_mk (and_mk (and_mk (and_mk (and_mk (and_mk (and_mk (and_mk (and_mk (and_mk (and_mk (and_mk valueCompares_j0 valueCompares_j1) valueCompares_j2) valueCompares_j3) valueCompares_j4) valueCompares_j5) valueCompares_j6) valueCompares_j7) valueCompares_j8) valueCompares_j9) valueCompares_j10) valueCompares_j11) valueCompares_j12) valueCompares_j13) valueCompares_j14) valueCompares_j15) valueCompares_j16) valueCompares_j17) valueCompares_j18) valueCompares_j19) valueCompares_j20) valueCompares_j21) valueCompares_j22) valueCompares_j23) valueCompares_j24) valueCompares_j25) valueCompares_j26) valueCompares_j27) valueCompares_j28) valueCompares_j29) valueCompares_j30) valueCompares_j31

theorem valueCompares_looks : true = Tryz.pinned.checked.prog.looks [] := by kernel_rfl
theorem valueCompares_goes : false = Rows.valueComparesRow.goesBy Tryz.pinned.checked.prog := by kernel_rfl
theorem valueCompares_text : Rows.valueComparesRow.wfByText (OpenSpec.ofChange Rows.valueComparesSpec) = true := by kernel_rfl
theorem valueCompares_at : Tryz.pinned.checked.prog.funcNamed Rows.valueComparesRow.func = some 10 := by kernel_rfl

theorem valueCompares_said : Rows.ValueComparesSaid :=
  OpenClaim.holds_of_cond 10 Tryz.f10 rfl rfl rfl rfl rfl rfl rfl ⟨rfl, rfl, rfl, rfl, rfl⟩ rfl rfl rfl rfl rfl valueCompares_at Tryz.func10 valueCompares_facts
    (of_decide_eq_true (by kernel_rfl)) (by unfold Func.isWrapper; first | (rw [if_pos (by decide +kernel)]; kernel_rfl) | (rw [if_neg (by decide +kernel)]; exact ⟨rfl, rfl⟩))
    (fun os started H enc _ F => by rw [OpenClaim.pre_eq_preRow]; exact valueCompares_lifted os started H enc F)

theorem valueCompares_plain (f : FuncId) (fn : Func) (hf : Tryz.pinned.checked.prog.funcNamed "quadrille/quadrillelaw14.ValueCompares" = some f) (hfn : Tryz.pinned.checked.prog.funcs[f]? = some fn) :
    true = Tryz.pinned.checked.prog.looks [] ∧ ∀ (j : Nat) t, fn.params[j]? = some t → Tryz.pinned.checked.prog.wantsStandIn t = false := by
  obtain rfl : f = 10 := Option.some.inj ((show Tryz.prog.funcNamed "quadrille/quadrillelaw14.ValueCompares" = some 10 by kernel_rfl).symm.trans hf) |>.symm
  obtain rfl : fn = Tryz.f10 := (Option.some.inj (Tryz.func10.symm.trans hfn)).symm
  refine ⟨valueCompares_looks, fun j t ht => ?_⟩
  rw [Tryz.params10] at ht
  have hm := Array.mem_of_getElem? ht
  simp only [List.mem_toArray, List.mem_cons, List.not_mem_nil, or_false] at hm
  rcases hm with rfl | rfl | rfl
  · exact (show Tryz.prog.wantsStandIn 3 = false by kernel_rfl)
  · exact (show Tryz.prog.wantsStandIn 29 = false by kernel_rfl)
  · exact (show Tryz.prog.wantsStandIn 29 = false by kernel_rfl)

/-- THE CARD. -/
theorem valueCompares_card : Rows.ValueComparesCardSaid :=
  Claim7.holds_tied_plain_at .later [] _ _ _ _ valueCompares_said (fun _ h => by cases h) valueCompares_text (fun _ h => by cases h) valueCompares_row_tie rfl ⟨rfl, rfl⟩ (by kernel_rfl) rfl valueCompares_plain valueCompares_goes

#print axioms valueCompares_card
end Go.Proofs.YtdapaocfidjihaaGreatDoor
