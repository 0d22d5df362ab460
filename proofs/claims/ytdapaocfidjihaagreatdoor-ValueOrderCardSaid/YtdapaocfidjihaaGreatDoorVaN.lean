/-
  ValueOrder (layer 14): whatever the arguments: the law answers true; each argument reads as it did. No condition.
-/
import Derived.Test.YtdapaocfidjihaaGreatDoorVaI
import Derived.Test.YtdapaocfidjihaaGreatDoorVaM
namespace Go.Proofs.YtdapaocfidjihaaGreatDoor
open Go.ChangeShapes Go.WideShapes Go.ChangeAt Go.RowKit

theorem okv_of {v : VaS.Val} (h : Wfv v) : Okv v := by
  refine ⟨?_, h.s⟩
  have := h.x
  simp only [Lit.wf, decide_eq_true_eq] at this
  exact this

theorem order_card (a : VaS.Val) (ha : Wfv a) (b : VaS.Val) (hb : Wfv b) (c : VaS.Val) (hc : Wfv c) (op : Int) : Ev.Pure Tryz.prog J0 9 [VaS.vv a, VaS.vv b, VaS.vv c, .int .i64 op] (.bool true) :=
  valueOrder_pure a b c op (okv_of ha) (okv_of hb) (okv_of hc)

set_option maxRecDepth 100000 in
theorem valueOrder_contract (H : Type) (enc : TypeId × Value → H) (W : World) (base : Nat) (args : Array Value) (ds gs : List (DataW H)) (before : List MemPlace)
    (hval : ∀ (j : Nat) t v, Tryz.f9.params[j]? = some t → args[j]? = some v → Value.okWide Tryz.prog W .any base t v)
    (hW : DataW.Whole enc Tryz.prog Tryz.f9.params.toList Rows.valueOrderSpec.vars false W args.toList ds gs before) (hG : J0.I W) :
    Calls Tryz.prog 9 args W fun e W' => ∃ v, e = .returned v ∧ Rows.valueOrderSpec.post enc Tryz.prog Tryz.f9 false true false false W args v W' := by
  have hW' := hW
  obtain ⟨p, q, hA0, hV, rfl, hfz, hnd⟩ := hW
  have hA : DataW.TrodAll enc Tryz.prog W 0 (fun _ => true) true Tryz.f9.params.toList args.toList ds p := hA0
  rw [Tryz.params9] at hA hval
  obtain ⟨v0, vs0, d0, ds0, p0, q0, hargs, rfl, rfl, h0, r0⟩ := trodAll_cons hA
  obtain ⟨v1, vs1, d1, ds1, p1, q1, rfl, rfl, rfl, h1, r1⟩ := trodAll_cons r0
  obtain ⟨v2, vs2, d2, ds2, p2, q2, rfl, rfl, rfl, h2, r2⟩ := trodAll_cons r1
  obtain ⟨v3, vs3, d3, ds3, p3, q3, rfl, rfl, rfl, h3, r3⟩ := trodAll_cons r2
  obtain ⟨rfl, rfl, rfl⟩ := trodAll_nil r3
  obtain rfl : args = #[v0, v1, v2, v3] := by cases args; simp_all
  obtain ⟨rfl, rfl⟩ := trodVars_none hV
  obtain ⟨u0, rfl, rfl, rfl, w0⟩ := open_val (hval 0 _ v0 rfl rfl) h0
  obtain ⟨u1, rfl, rfl, rfl, w1⟩ := open_val (hval 1 _ v1 rfl rfl) h1
  obtain ⟨u2, rfl, rfl, rfl, w2⟩ := open_val (hval 2 _ v2 rfl rfl) h2
  obtain ⟨a3, rfl, rfl, rfl, w3⟩ := open_int Tryz.underlying3 (hval 3 _ v3 rfl rfl) h3
  clear hA0
  simp only [List.append_nil] at hW'
  have he : Enters Tryz.prog 9 := enters_of Tryz.func9 (by kernel_rfl) (c := _) rfl
  refine (Pure.calls (order_card u0 w0 u1 w1 u2 w2 a3) he W hG).mono fun e' W' ⟨he', hb⟩ => ?_
  subst he'
  exact ⟨_, rfl, post_of_below hW' (fun _ _ _ => trodAll_cons_mk (shut_bool Tryz.underlying4 _) trodAll_mk0)
    (fun _ => trodAll_cons_mk (shut_val w0) (trodAll_cons_mk (shut_val w1) (trodAll_cons_mk (shut_val w2) (trodAll_cons_mk (shut_int Tryz.underlying3 w3) trodAll_mk0)))) (fun _ => rfl) hb (ok_one (by kernel_rfl) rfl (okWide_bool_mk Tryz.underlying4 _))⟩

theorem valueOrder_laid (os : Os) : laidMet Tryz.prog Rows.valueOrderRow.laid ((laidWorld os).forCall (fun _ _ => 0) ⟨#[], #[.agg ⟨[.int .i64 0, .float .f64 0, .string ⟨#[]⟩, .bool false, .int .i64 0]⟩, .agg ⟨[.int .i64 0, .float .f64 0, .string ⟨#[]⟩, .bool false, .int .i64 0]⟩, .agg ⟨[.int .i64 0, .float .f64 0, .string ⟨#[]⟩, .bool false, .int .i64 0]⟩, .int .i64 0], []⟩).memory :=
  laidMet_of_run' 8 (by kernel_rfl) (by kernel_rfl)

theorem valueOrder_reads (os : Os) {H : Type} (enc : TypeId × Value → H) : ∃ places, DataW.whole enc Tryz.prog ((laidWorld os).forCall (fun _ _ => 0) ⟨#[], #[.agg ⟨[.int .i64 0, .float .f64 0, .string ⟨#[]⟩, .bool false, .int .i64 0]⟩, .agg ⟨[.int .i64 0, .float .f64 0, .string ⟨#[]⟩, .bool false, .int .i64 0]⟩, .agg ⟨[.int .i64 0, .float .f64 0, .string ⟨#[]⟩, .bool false, .int .i64 0]⟩, .int .i64 0], []⟩).memory Tryz.f9.params.toList Rows.valueOrderSpec.vars false
    #[Value.agg ⟨[.int .i64 0, .float .f64 0, .string ⟨#[]⟩, .bool false, .int .i64 0]⟩, .agg ⟨[.int .i64 0, .float .f64 0, .string ⟨#[]⟩, .bool false, .int .i64 0]⟩, .agg ⟨[.int .i64 0, .float .f64 0, .string ⟨#[]⟩, .bool false, .int .i64 0]⟩, .int .i64 0].toList 8 = some ([dVal ⟨0, 0, [], false, 0⟩, dVal ⟨0, 0, [], false, 0⟩, dVal ⟨0, 0, [], false, 0⟩, .lit (.int .i64 0)], [], places) :=
  ⟨[], by kernel_rfl⟩

set_option maxRecDepth 100000 in
theorem valueOrder_lifted (os : Os) (started : os.Started) (H : Type) (enc : TypeId × Value → H) (F : Stop.Interp) :
    ReturnsInHanded {} Tryz.checked os 9 .any ((OpenSpec.ofChange Rows.valueOrderSpec).preRow enc Tryz.prog Tryz.f9 Rows.valueOrderRow.domain false Rows.valueOrderRow.laid) (((OpenSpec.ofChange Rows.valueOrderSpec).at F).post enc Tryz.prog Tryz.f9 false true false false) := by
  obtain ⟨places, hx⟩ := valueOrder_reads os enc
  refine returnsInHanded_of_row (C := Tryz.checked) (s := OpenSpec.ofChange Rows.valueOrderSpec) own started (by kernel_rfl) Tryz.func9
    (witness_row_at (enc := enc) (C := Tryz.checked) false (laidWorld os) #[.agg ⟨[.int .i64 0, .float .f64 0, .string ⟨#[]⟩, .bool false, .int .i64 0]⟩, .agg ⟨[.int .i64 0, .float .f64 0, .string ⟨#[]⟩, .bool false, .int .i64 0]⟩, .agg ⟨[.int .i64 0, .float .f64 0, .string ⟨#[]⟩, .bool false, .int .i64 0]⟩, .int .i64 0] rfl (by kernel_rfl) (by kernel_rfl) (by kernel_rfl)
      (OpenSpec.preRow_of_cond 8 hx (by kernel_rfl) (fun k hk => by cases hk) (by kernel_rfl) (valueOrder_laid os))) ?_
  intro W base args ds gs before hval hW _ _ _ hL _ _
  exact valueOrder_contract H enc W base args ds gs before hval hW (inv_of_laid hL)

theorem valueOrder_j0 : (Rows.valueOrderRow.wf (OpenSpec.ofChange (OpenSpec.ofChange Rows.valueOrderSpec).bare)) = true := by kernel_rfl
theorem valueOrder_j1 : (laidOutB Tryz.pinned.checked.prog) = true := by kernel_rfl
theorem valueOrder_j2 : (mapsRowed Tryz.pinned.checked.prog) = true := by kernel_rfl
theorem valueOrder_j3 : (Tryz.f9.params.all (Tryz.pinned.checked.prog.readableRec ·)) = true := by kernel_rfl
theorem valueOrder_j4 : (namedTie Tryz.pinned.checked.prog Rows.valueOrderRow.named (OpenSpec.ofChange Rows.valueOrderSpec).bare.vars) = true := by kernel_rfl
theorem valueOrder_j5 : ((Rows.valueOrderRow.stops == [])) = true := by kernel_rfl
theorem valueOrder_j6 : ((Tryz.pinned.checked.prog.stops == [])) = true := by kernel_rfl
theorem valueOrder_j7 : ((Rows.valueOrderRow.knobs == [])) = true := by kernel_rfl
theorem valueOrder_j8 : ((Tryz.pinned.checked.prog.stopKnobs == [])) = true := by kernel_rfl
theorem valueOrder_j9 : ((Rows.valueOrderRow.inPlace == Tryz.pinned.checked.prog.inPlace 9)) = true := by kernel_rfl
theorem valueOrder_j10 : ((Rows.valueOrderRow.unfollowed == Tryz.pinned.checked.prog.unfollowed 9)) = true := by kernel_rfl
theorem valueOrder_j11 : ((Rows.valueOrderRow.recurses == Tryz.pinned.checked.prog.recurses 9)) = true := by kernel_rfl
theorem valueOrder_j12 : ((Rows.valueOrderRow.named == Tryz.pinned.checked.prog.varsNamed 9)) = true := by kernel_rfl
theorem valueOrder_j13 : ((Rows.valueOrderRow.maps == (Tryz.f9.params.toList ++ (OpenSpec.ofChange Rows.valueOrderSpec).bare.plain.varTypes Tryz.pinned.checked.prog).any (Tryz.pinned.checked.prog.mapsRec ·))) = true := by kernel_rfl
theorem valueOrder_j14 : ((Rows.valueOrderRow.ifaces == (Tryz.f9.params.toList ++ (OpenSpec.ofChange Rows.valueOrderSpec).bare.plain.varTypes Tryz.pinned.checked.prog).any (Tryz.pinned.checked.prog.ifacesRec ·))) = true := by kernel_rfl
theorem valueOrder_j15 : ((Rows.valueOrderRow.mapsOut == Tryz.pinned.checked.prog.mapsAmong Tryz.f9.resultTypes.toList)) = true := by kernel_rfl
theorem valueOrder_j16 : ((Rows.valueOrderRow.loops == (Tryz.f9.params.toList ++ (OpenSpec.ofChange Rows.valueOrderSpec).bare.plain.varTypes Tryz.pinned.checked.prog).any (Tryz.pinned.checked.prog.loopsFrom ·))) = true := by kernel_rfl
theorem valueOrder_j17 : ((Rows.valueOrderRow.wideKeys == (Tryz.f9.params.toList ++ (OpenSpec.ofChange Rows.valueOrderSpec).bare.plain.varTypes Tryz.pinned.checked.prog ++ Tryz.f9.resultTypes.toList).any (Tryz.pinned.checked.prog.wideKeysFrom ·))) = true := by kernel_rfl
theorem valueOrder_j18 : ((OpenSpec.ofChange Rows.valueOrderSpec).bare.vars.all (Tryz.pinned.checked.prog.varReadable ·)) = true := by kernel_rfl
theorem valueOrder_j19 : (Tryz.f9.resultTypes.all (fun t => Tryz.pinned.checked.prog.readableRec t && decide (t < Tryz.pinned.checked.prog.types.size))) = true := by kernel_rfl
theorem valueOrder_j20 : ((Rows.valueOrderRow.ifacesOut == Tryz.f9.resultTypes.toList.any (Tryz.pinned.checked.prog.ifacesRec ·))) = true := by kernel_rfl
theorem valueOrder_j21 : ((Rows.valueOrderRow.loopsOut == Tryz.f9.resultTypes.toList.any (Tryz.pinned.checked.prog.loopsFrom ·))) = true := by kernel_rfl
theorem valueOrder_j22 : ((Rows.valueOrderRow.plainKeys == Tryz.pinned.checked.prog.plainKeys)) = true := by kernel_rfl
theorem valueOrder_j23 : (Rows.valueOrderRow.shortTexts.isNone) = true := by kernel_rfl
theorem valueOrder_j24 : (Tryz.pinned.checked.prog.stopsHeard) = true := by kernel_rfl
theorem valueOrder_j25 : (Tryz.pinned.checked.prog.mayEnter) = true := by kernel_rfl
theorem valueOrder_j26 : ((Rows.valueOrderRow.lifted == Tryz.pinned.checked.prog.liftsFinal)) = true := by kernel_rfl
theorem valueOrder_j27 : ((Tryz.pinned.checked.prog.make == some Rows.valueOrderRow.make)) = true := by kernel_rfl
theorem valueOrder_j28 : ((Rows.valueOrderRow.kinds == (if Rows.valueOrderRow.domain.isEmpty then [] else Tryz.f9.params.toList.map fun t => match Tryz.pinned.checked.prog.underlying t with | some (.int k) => some k | _ => none))) = true := by kernel_rfl
theorem valueOrder_j29 : ((Rows.valueOrderRow.pinned == Rows.valueOrderRow.pinnedBy)) = true := by kernel_rfl
theorem valueOrder_j30 : ((Rows.valueOrderRow.veiled == (Tryz.f9.params.toList ++ (OpenSpec.ofChange Rows.valueOrderSpec).bare.plain.varTypes Tryz.pinned.checked.prog ++ Tryz.f9.resultTypes.toList).any (Tryz.pinned.checked.prog.veiledRec ·))) = true := by kernel_rfl
theorem valueOrder_j31 : (Rows.valueOrderRow.veiledFits Tryz.pinned.checked.prog Tryz.f9.params.toList (Tryz.f9.params.toList ++ (OpenSpec.ofChange Rows.valueOrderSpec).bare.plain.varTypes Tryz.pinned.checked.prog ++ Tryz.f9.resultTypes.toList)) = true := by kernel_rfl
theorem and_mk {a b : Bool} (h1 : a = true) (h2 : b = true) : (a && b) = true := by rw [h1, h2]; rfl

set_option maxRecDepth 100000 in
/-- The closed facts on the row, one by one (together they ask too much memory). -/
theorem valueOrder_facts : joinedFacts Tryz.pinned.checked.prog 9 Tryz.f9 (OpenSpec.ofChange Rows.valueOrderSpec).bare Rows.valueOrderRow = true := by
  unfold joinedFacts
  exact and_mk (and_mk (and_mk (and_mk (and_mk (and_mk (and_mk (and_mk (and_mk (and_mk (and_mk (and_mk (and_mk (and_mk (and_mk (and_mk (and_mk (and_mk (and_mk (and_mk (and_mk (and_mk (and_mk (and_mk (and_mk (and_mk (and_mk (and_mk (and_mk (and_mk (and_mk valueOrder_j0 valueOrder_j1) valueOrder_j2) valueOrder_j3) valueOrder_j4) valueOrder_j5) valueOrder_j6) valueOrder_j7) valueOrder_j8) valueOrder_j9) valueOrder_j10) valueOrder_j11) valueOrder_j12) valueOrder_j13) valueOrder_j14) valueOrder_j15) valueOrder_j16) valueOrder_j17) valueOrder_j18) valueOrder_j19) valueOrder_j20) valueOrder_j21) valueOrder_j22) valueOrder_j23) valueOrder_j24) valueOrder_j25) valueOrder_j26) valueOrder_j27) valueOrder_j28) valueOrder_j29) valueOrder_j30) valueOrder_j31

theorem valueOrder_looks : true = Tryz.pinned.checked.prog.looks [] := by kernel_rfl
theorem valueOrder_goes : false = Rows.valueOrderRow.goesBy Tryz.pinned.checked.prog := by kernel_rfl
theorem valueOrder_text : Rows.valueOrderRow.wfByText (OpenSpec.ofChange Rows.valueOrderSpec) = true := by kernel_rfl
theorem valueOrder_at : Tryz.pinned.checked.prog.funcNamed Rows.valueOrderRow.func = some 9 := by kernel_rfl

theorem valueOrder_said : Rows.ValueOrderSaid :=
  OpenClaim.holds_of_cond 9 Tryz.f9 rfl rfl rfl rfl rfl rfl rfl ⟨rfl, rfl, rfl, rfl, rfl⟩ rfl rfl rfl rfl rfl valueOrder_at Tryz.func9 valueOrder_facts
    (of_decide_eq_true (by kernel_rfl)) (by unfold Func.isWrapper; first | (rw [if_pos (by decide +kernel)]; kernel_rfl) | (rw [if_neg (by decide +kernel)]; exact ⟨rfl, rfl⟩))
    (fun os started H enc _ F => by rw [OpenClaim.pre_eq_preRow]; exact valueOrder_lifted os started H enc F)

theorem valueOrder_plain (f : FuncId) (fn : Func) (hf : Tryz.pinned.checked.prog.funcNamed "quadrille/quadrillelaw14.ValueOrder" = some f) (hfn : Tryz.pinned.checked.prog.funcs[f]? = some fn) :
    true = Tryz.pinned.checked.prog.looks [] ∧ ∀ (j : Nat) t, fn.params[j]? = some t → Tryz.pinned.checked.prog.wantsStandIn t = false := by
  obtain rfl : f = 9 := Option.some.inj ((show Tryz.prog.funcNamed "quadrille/quadrillelaw14.ValueOrder" = some 9 by kernel_rfl).symm.trans hf) |>.symm
  obtain rfl : fn = Tryz.f9 := (Option.some.inj (Tryz.func9.symm.trans hfn)).symm
  refine ⟨valueOrder_looks, fun j t ht => ?_⟩
  rw [Tryz.params9] at ht
  have hm := Array.mem_of_getElem? ht
  simp only [List.mem_toArray, List.mem_cons, List.not_mem_nil, or_false] at hm
  rcases hm with rfl | rfl | rfl | rfl
  · exact (show Tryz.prog.wantsStandIn 29 = false by kernel_rfl)
  · exact (show Tryz.prog.wantsStandIn 29 = false by kernel_rfl)
  · exact (show Tryz.prog.wantsStandIn 29 = false by kernel_rfl)
  · exact (show Tryz.prog.wantsStandIn 3 = false by kernel_rfl)

/-- THE CARD. -/
theorem valueOrder_card : Rows.ValueOrderCardSaid :=
  Claim7.holds_tied_plain_at .later [] _ _ _ _ valueOrder_said (fun _ h => by cases h) valueOrder_text (fun _ h => by cases h) valueOrder_row_tie rfl ⟨rfl, rfl⟩ (by kernel_rfl) rfl valueOrder_plain valueOrder_goes

#print axioms valueOrder_card
end Go.Proofs.YtdapaocfidjihaaGreatDoor
