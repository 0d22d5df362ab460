/-
  ValueKinds (layer 14): whatever the arguments: the law answers true; each argument reads as it did. No condition.
-/
import Derived.Test.YtdapaocfidjihaaGreatDoorVaI
import Derived.Test.YtdapaocfidjihaaGreatDoorVaR
namespace Go.Proofs.YtdapaocfidjihaaGreatDoor
open Go.ChangeShapes Go.WideShapes Go.ChangeAt Go.RowKit

theorem okv_of {v : VaS.Val} (h : Wfv v) : Okv v := by
  refine ⟨?_, h.s⟩
  have := h.x
  simp only [Lit.wf, decide_eq_true_eq] at this
  exact this

theorem kinds_card (a : VaS.Val) (ha : Wfv a) (b : VaS.Val) (hb : Wfv b) : Ev.Pure Tryz.prog J0 8 [VaS.vv a, VaS.vv b] (.bool true) :=
  valueKinds_pure a b (okv_of ha) (okv_of hb)

set_option maxRecDepth 100000 in
theorem valueKinds_contract (H : Type) (enc : TypeId × Value → H) (W : World) (base : Nat) (args : Array Value) (ds gs : List (DataW H)) (before : List MemPlace)
    (hval : ∀ (j : Nat) t v, Tryz.f8.params[j]? = some t → args[j]? = some v → Value.okWide Tryz.prog W .any base t v)
    (hW : DataW.Whole enc Tryz.prog Tryz.f8.params.toList Rows.valueKindsSpec.vars false W args.toList ds gs before) (hG : J0.I W) :
    Calls Tryz.prog 8 args W fun e W' => ∃ v, e = .returned v ∧ Rows.valueKindsSpec.post enc Tryz.prog Tryz.f8 false true false false W args v W' := by
  have hW' := hW
  obtain ⟨p, q, hA0, hV, rfl, hfz, hnd⟩ := hW
  have hA : DataW.TrodAll enc Tryz.prog W 0 (fun _ => true) true Tryz.f8.params.toList args.toList ds p := hA0
  rw [Tryz.params8] at hA hval
  obtain ⟨v0, vs0, d0, ds0, p0, q0, hargs, rfl, rfl, h0, r0⟩ := trodAll_cons hA
  obtain ⟨v1, vs1, d1, ds1, p1, q1, rfl, rfl, rfl, h1, r1⟩ := trodAll_cons r0
  obtain ⟨rfl, rfl, rfl⟩ := trodAll_nil r1
  obtain rfl : args = #[v0, v1] := by cases args; simp_all
  obtain ⟨rfl, rfl⟩ := trodVars_none hV
  obtain ⟨u0, rfl, rfl, rfl, w0⟩ := open_val (hval 0 _ v0 rfl rfl) h0
  obtain ⟨u1, rfl, rfl, rfl, w1⟩ := open_val (hval 1 _ v1 rfl rfl) h1
  clear hA0
  simp only [List.append_nil] at hW'
  have he : Enters Tryz.prog 8 := enters_of Tryz.func8 (by kernel_rfl) (c := _) rfl
  refine (Pure.calls (kinds_card u0 w0 u1 w1) he W hG).mono fun e' W' ⟨he', hb⟩ => ?_
  subst he'
  exact ⟨_, rfl, post_of_below hW' (fun _ _ _ => trodAll_cons_mk (shut_bool Tryz.underlying4 _) trodAll_mk0)
    (fun _ => trodAll_cons_mk (shut_val w0) (trodAll_cons_mk (shut_val w1) trodAll_mk0)) (fun _ => rfl) hb (ok_one (by kernel_rfl) rfl (okWide_bool_mk Tryz.underlying4 _))⟩

theorem valueKinds_laid (os : Os) : laidMet Tryz.prog Rows.valueKindsRow.laid ((laidWorld os).forCall (fun _ _ => 0) ⟨#[], #[.agg ⟨[.int .i64 0, .float .f64 0, .string ⟨#[]⟩, .bool false, .int .i64 0]⟩, .agg ⟨[.int .i64 0, .float .f64 0, .string ⟨#[]⟩, .bool false, .int .i64 0]⟩], []⟩).memory :=
  laidMet_of_run' 8 (by kernel_rfl) (by kernel_rfl)

theorem valueKinds_reads (os : Os) {H : Type} (enc : TypeId × Value → H) : ∃ places, DataW.whole enc Tryz.prog ((laidWorld os).forCall (fun _ _ => 0) ⟨#[], #[.agg ⟨[.int .i64 0, .float .f64 0, .string ⟨#[]⟩, .bool false, .int .i64 0]⟩, .agg ⟨[.int .i64 0, .float .f64 0, .string ⟨#[]⟩, .bool false, .int .i64 0]⟩], []⟩).memory Tryz.f8.params.toList Rows.valueKindsSpec.vars false
    #[Value.agg ⟨[.int .i64 0, .float .f64 0, .string ⟨#[]⟩, .bool false, .int .i64 0]⟩, .agg ⟨[.int .i64 0, .float .f64 0, .string ⟨#[]⟩, .bool false, .int .i64 0]⟩].toList 8 = some ([dVal ⟨0, 0, [], false, 0⟩, dVal ⟨0, 0, [], false, 0⟩], [], places) :=
  ⟨[], by kernel_rfl⟩

set_option maxRecDepth 100000 in
theorem valueKinds_lifted (os : Os) (started : os.Started) (H : Type) (enc : TypeId × Value → H) (F : Stop.Interp) :
    ReturnsInHanded {} Tryz.checked os 8 .any ((OpenSpec.ofChange Rows.valueKindsSpec).preRow enc Tryz.prog Tryz.f8 Rows.valueKindsRow.domain false Rows.valueKindsRow.laid) (((OpenSpec.ofChange Rows.valueKindsSpec).at F).post enc Tryz.prog Tryz.f8 false true false false) := by
  obtain ⟨places, hx⟩ := valueKinds_reads os enc
  refine returnsInHanded_of_row (C := Tryz.checked) (s := OpenSpec.ofChange Rows.valueKindsSpec) own started (by kernel_rfl) Tryz.func8
    (witness_row_at (enc := enc) (C := Tryz.checked) false (laidWorld os) #[.agg ⟨[.int .i64 0, .float .f64 0, .string ⟨#[]⟩, .bool false, .int .i64 0]⟩, .agg ⟨[.int .i64 0, .float .f64 0, .string ⟨#[]⟩, .bool false, .int .i64 0]⟩] rfl (by kernel_rfl) (by kernel_rfl) (by kernel_rfl)
      (OpenSpec.preRow_of_cond 8 hx (by kernel_rfl) (fun k hk => by cases hk) (by kernel_rfl) (valueKinds_laid os))) ?_
  intro W base args ds gs before hval hW _ _ _ hL hS _
  exact valueKinds_contract H enc W base args ds gs before hval hW (inv_of_laid hL hS)

theorem valueKinds_j0 : (Rows.valueKindsRow.wf (OpenSpec.ofChange (OpenSpec.ofChange Rows.valueKindsSpec).bare)) = true := by kernel_rfl
theorem valueKinds_j1 : (laidOutB Tryz.pinned.checked.prog) = true := by kernel_rfl
theorem valueKinds_j2 : (mapsRowed Tryz.pinned.checked.prog) = true := by kernel_rfl
theorem valueKinds_j3 : (Tryz.f8.params.all (Tryz.pinned.checked.prog.readableRec ·)) = true := by kernel_rfl
theorem valueKinds_j4 : (namedTie Tryz.pinned.checked.prog Rows.valueKindsRow.named (OpenSpec.ofChange Rows.valueKindsSpec).bare.vars) = true := by kernel_rfl
theorem valueKinds_j5 : ((Rows.valueKindsRow.stops == [])) = true := by kernel_rfl
theorem valueKinds_j6 : ((Tryz.pinned.checked.prog.stops == [])) = true := by kernel_rfl
theorem valueKinds_j7 : ((Rows.valueKindsRow.knobs == [])) = true := by kernel_rfl
theorem valueKinds_j8 : ((Tryz.pinned.checked.prog.stopKnobs == [])) = true := by kernel_rfl
theorem valueKinds_j9 : ((Rows.valueKindsRow.inPlace == Tryz.pinned.checked.prog.inPlace 8)) = true := by kernel_rfl
theorem valueKinds_j10 : ((Rows.valueKindsRow.unfollowed == Tryz.pinned.checked.prog.unfollowed 8)) = true := by kernel_rfl
theorem valueKinds_j11 : ((Rows.valueKindsRow.recurses == Tryz.pinned.checked.prog.recurses 8)) = true := by kernel_rfl
theorem valueKinds_j12 : ((Rows.valueKindsRow.named == Tryz.pinned.checked.prog.varsNamed 8)) = true := by kernel_rfl
theorem valueKinds_j13 : ((Rows.valueKindsRow.maps == (Tryz.f8.params.toList ++ (OpenSpec.ofChange Rows.valueKindsSpec).bare.plain.varTypes Tryz.pinned.checked.prog).any (Tryz.pinned.checked.prog.mapsRec ·))) = true := by kernel_rfl
theorem valueKinds_j14 : ((Rows.valueKindsRow.ifaces == (Tryz.f8.params.toList ++ (OpenSpec.ofChange Rows.valueKindsSpec).bare.plain.varTypes Tryz.pinned.checked.prog).any (Tryz.pinned.checked.prog.ifacesRec ·))) = true := by kernel_rfl
theorem valueKinds_j15 : ((Rows.valueKindsRow.mapsOut == Tryz.pinned.checked.prog.mapsAmong Tryz.f8.resultTypes.toList)) = true := by kernel_rfl
theorem valueKinds_j16 : ((Rows.valueKindsRow.loops == (Tryz.f8.params.toList ++ (OpenSpec.ofChange Rows.valueKindsSpec).bare.plain.varTypes Tryz.pinned.checked.prog).any (Tryz.pinned.checked.prog.loopsFrom ·))) = true := by kernel_rfl
theorem valueKinds_j17 : ((Rows.valueKindsRow.wideKeys == (Tryz.f8.params.toList ++ (OpenSpec.ofChange Rows.valueKindsSpec).bare.plain.varTypes Tryz.pinned.checked.prog ++ Tryz.f8.resultTypes.toList).any (Tryz.pinned.checked.prog.wideKeysFrom ·))) = true := by kernel_rfl
theorem valueKinds_j18 : ((OpenSpec.ofChange Rows.valueKindsSpec).bare.vars.all (Tryz.pinned.checked.prog.varReadable ·)) = true := by kernel_rfl
theorem valueKinds_j19 : (Tryz.f8.resultTypes.all (fun t => Tryz.pinned.checked.prog.readableRec t && decide (t < Tryz.pinned.checked.prog.types.size))) = true := by kernel_rfl
theorem valueKinds_j20 : ((Rows.valueKindsRow.ifacesOut == Tryz.f8.resultTypes.toList.any (Tryz.pinned.checked.prog.ifacesRec ·))) = true := by kernel_rfl
theorem valueKinds_j21 : ((Rows.valueKindsRow.loopsOut == Tryz.f8.resultTypes.toList.any (Tryz.pinned.checked.prog.loopsFrom ·))) = true := by kernel_rfl
theorem valueKinds_j22 : ((Rows.valueKindsRow.plainKeys == Tryz.pinned.checked.prog.plainKeys)) = true := by kernel_rfl
theorem valueKinds_j23 : (Rows.valueKindsRow.shortTexts.isNone) = true := by kernel_rfl
theorem valueKinds_j24 : (Tryz.pinned.checked.prog.stopsHeard) = true := by kernel_rfl
theorem valueKinds_j25 : (Tryz.pinned.checked.prog.mayEnter) = true := by kernel_rfl
theorem valueKinds_j26 : ((Rows.valueKindsRow.lifted == Tryz.pinned.checked.prog.liftsFinal)) = true := by kernel_rfl
theorem valueKinds_j27 : ((Tryz.pinned.checked.prog.make == some Rows.valueKindsRow.make)) = true := by kernel_rfl
theorem valueKinds_j28 : ((Rows.valueKindsRow.kinds == (if Rows.valueKindsRow.domain.isEmpty then [] else Tryz.f8.params.toList.map fun t => match Tryz.pinned.checked.prog.underlying t with | some (.int k) => some k | _ => none))) = true := by kernel_rfl
theorem valueKinds_j29 : ((Rows.valueKindsRow.pinned == Rows.valueKindsRow.pinnedBy)) = true := by kernel_rfl
theorem valueKinds_j30 : ((Rows.valueKindsRow.veiled == (Tryz.f8.params.toList ++ (OpenSpec.ofChange Rows.valueKindsSpec).bare.plain.varTypes Tryz.pinned.checked.prog ++ Tryz.f8.resultTypes.toList).any (Tryz.pinned.checked.prog.veiledRec ·))) = true := by kernel_rfl
theorem valueKinds_j31 : (Rows.valueKindsRow.veiledFits Tryz.pinned.checked.prog Tryz.f8.params.toList (Tryz.f8.params.toList ++ (OpenSpec.ofChange Rows.valueKindsSpec).bare.plain.varTypes Tryz.pinned.checked.prog ++ Tryz.f8.resultTypes.toList)) = true := by kernel_rfl
theorem and_mk {a b : Bool} (h1 : a = true) (h2 : b = true) : (a && b) = true := by rw [h1, h2]; rfl

set_option maxRecDepth 100000 in
/-- The closed facts on the row, one by one (together they ask too much memory). -/
theorem valueKinds_facts : joinedFacts Tryz.pinned.checked.prog 8 Tryz.f8 (OpenSpec.ofChange Rows.valueKindsSpec).bare Rows.valueKindsRow = true := by
  unfold joinedFacts
  exact and_mk (and_mk (and_mk (and_mk (and_mk (and_mk (and_mk (and_mk (and_mk (and_mk (and_mk (and_mk (and_mk (and_mk (and_mk (and_mk (and_mk (and_mk (and_mk (and_mk (and_mk (and_mk (and_mk (and_mk (and_mk (and_mk (and_mk (and_mk (and_mk (and_mk (and_mk valueKinds_j0 valueKinds_j1) valueKinds_j2) valueKinds_j3) valueKinds_j4) valueKinds_j5) valueKinds_j6) valueKinds_j7) valueKinds_j8) valueKinds_j9) valueKinds_j10) valueKinds_j11) valueKinds_j12) valueKinds_j13) valueKinds_j14) valueKinds_j15) valueKinds_j16) valueKinds_j17) valueKinds_j18) valueKinds_j19) valueKinds_j20) valueKinds_j21) valueKinds_j22) valueKinds_j23) valueKinds_j24) valueKinds_j25) valueKinds_j26) valueKinds_j27) valueKinds_j28) valueKinds_j29) valueKinds_j30) valueKinds_j31

theorem valueKinds_looks : true = Tryz.pinned.checked.prog.looks [] := by kernel_rfl
theorem valueKinds_goes : false = Rows.valueKindsRow.goesBy Tryz.pinned.checked.prog := by kernel_rfl
theorem valueKinds_text : Rows.valueKindsRow.wfByText (OpenSpec.ofChange Rows.valueKindsSpec) = true := by kernel_rfl
theorem valueKinds_at : Tryz.pinned.checked.prog.funcNamed Rows.valueKindsRow.func = some 8 := by kernel_rfl

theorem valueKinds_said : Rows.ValueKindsSaid :=
  OpenClaim.holds_of_cond 8 Tryz.f8 rfl rfl rfl rfl rfl rfl rfl ⟨rfl, rfl, rfl, rfl, rfl⟩ rfl rfl rfl rfl rfl valueKinds_at Tryz.func8 valueKinds_facts
    (of_decide_eq_true (by kernel_rfl)) (by unfold Func.isWrapper; first | (rw [if_pos (by decide +kernel)]; kernel_rfl) | (rw [if_neg (by decide +kernel)]; exact ⟨rfl, rfl⟩))
    (fun os started H enc _ F => by rw [OpenClaim.pre_eq_preRow]; exact valueKinds_lifted os started H enc F)

theorem valueKinds_plain (f : FuncId) (fn : Func) (hf : Tryz.pinned.checked.prog.funcNamed "quadrille/quadrillelaw14.ValueKinds" = some f) (hfn : Tryz.pinned.checked.prog.funcs[f]? = some fn) :
    true = Tryz.pinned.checked.prog.looks [] ∧ ∀ (j : Nat) t, fn.params[j]? = some t → Tryz.pinned.checked.prog.wantsStandIn t = false := by
  obtain rfl : f = 8 := Option.some.inj ((show Tryz.prog.funcNamed "quadrille/quadrillelaw14.ValueKinds" = some 8 by kernel_rfl).symm.trans hf) |>.symm
  obtain rfl : fn = Tryz.f8 := (Option.some.inj (Tryz.func8.symm.trans hfn)).symm
  refine ⟨valueKinds_looks, fun j t ht => ?_⟩
  rw [Tryz.params8] at ht
  have hm := Array.mem_of_getElem? ht
  simp only [List.mem_toArray, List.mem_cons, List.not_mem_nil, or_false] at hm
  rcases hm with rfl | rfl
  · exact (show Tryz.prog.wantsStandIn 29 = false by kernel_rfl)
  · exact (show Tryz.prog.wantsStandIn 29 = false by kernel_rfl)

/-- THE CARD. -/
theorem valueKinds_card : Rows.ValueKindsCardSaid :=
  Claim7.holds_tied_plain_at .later [] _ _ _ _ valueKinds_said (fun _ h => by cases h) valueKinds_text (fun _ h => by cases h) valueKinds_row_tie rfl ⟨rfl, rfl⟩ (by kernel_rfl) rfl valueKinds_plain valueKinds_goes

#print axioms valueKinds_card
end Go.Proofs.YtdapaocfidjihaaGreatDoor
