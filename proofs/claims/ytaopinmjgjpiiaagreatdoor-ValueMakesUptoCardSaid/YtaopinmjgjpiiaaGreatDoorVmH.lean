/-
  ValueMakes (layer 14): whatever the arguments: the law answers true; each argument reads as it did. Condition: what is read is of bulk at most 1048576.
-/
import Derived.Test.YtaopinmjgjpiiaaGreatDoorVaI
import Derived.Test.YtaopinmjgjpiiaaGreatDoorVmG
namespace Go.Proofs.YtaopinmjgjpiiaaGreatDoor
open Go.ChangeShapes Go.WideShapes Go.ChangeAt Go.RowKit

theorem bulk_part {H : Type} {d : DataW H} {l : List (DataW H)} (h : d ∈ l) : Rows.uptoBulk d ≤ Rows.uptoBulkAll l := by
  induction l with
  | nil => cases h
  | cons x r ih =>
    simp only [Rows.uptoBulkAll]
    cases List.mem_cons.1 h with
    | inl e => subst e; omega
    | inr e => have := ih e; omega
theorem bulk_str {H : Type} {s : List UInt8} {l : List (DataW H)} (h : Rows.uptoSmall H l = true) (hm : DataW.lit (.string s) ∈ l) : s.length ≤ 1048576 := by
  have h := of_decide_eq_true h
  have := bulk_part (H := H) hm
  simp only [Rows.uptoBulk] at this
  omega
theorem valueMakes_fin (a : Int) (w : (Lit.int .u64 a).wf = true) (t : List UInt8) (hl : t.length ≤ 1048576) (f e : Int) : Ev.Pure Tryz.prog J0 6 [.int .u64 a, .string ⟨⟨t⟩⟩, .int .i64 f, .int .i64 e] (.bool true) :=
  valueMakes_pure a (by
    simp only [Lit.wf, Bool.and_eq_true, decide_eq_true_eq] at w
    have h2 : a ≤ IntKind.u64.max := w.2
    have e : IntKind.u64.max = 18446744073709551615 := by decide
    omega) t hl f e

set_option maxRecDepth 100000 in
theorem valueMakes_contract (H : Type) (enc : TypeId × Value → H) (W : World) (base : Nat) (args : Array Value) (ds gs : List (DataW H)) (before : List MemPlace)
    (hval : ∀ (j : Nat) t v, Tryz.f6.params[j]? = some t → args[j]? = some v → Value.okWide Tryz.prog W .any base t v)
    (hW : DataW.Whole enc Tryz.prog Tryz.f6.params.toList Rows.valueMakesSpec.vars false W args.toList ds gs before) (hbk : Rows.uptoSmall H (ds ++ gs) = true) (hG : J0.I W) :
    Calls Tryz.prog 6 args W fun e W' => ∃ v, e = .returned v ∧ Rows.valueMakesSpec.post enc Tryz.prog Tryz.f6 false true false false W args v W' := by
  have hW' := hW
  obtain ⟨p, q, hA0, hV, rfl, hfz, hnd⟩ := hW
  have hA : DataW.TrodAll enc Tryz.prog W 0 (fun _ => true) true Tryz.f6.params.toList args.toList ds p := hA0
  rw [Tryz.params6] at hA hval
  obtain ⟨v0, vs0, d0, ds0, p0, q0, hargs, rfl, rfl, h0, r0⟩ := trodAll_cons hA
  obtain ⟨v1, vs1, d1, ds1, p1, q1, rfl, rfl, rfl, h1, r1⟩ := trodAll_cons r0
  obtain ⟨v2, vs2, d2, ds2, p2, q2, rfl, rfl, rfl, h2, r2⟩ := trodAll_cons r1
  obtain ⟨v3, vs3, d3, ds3, p3, q3, rfl, rfl, rfl, h3, r3⟩ := trodAll_cons r2
  obtain ⟨rfl, rfl, rfl⟩ := trodAll_nil r3
  obtain rfl : args = #[v0, v1, v2, v3] := by cases args; simp_all
  obtain ⟨rfl, rfl⟩ := trodVars_none hV
  obtain ⟨a0, rfl, rfl, rfl, w0⟩ := open_int Tryz.underlying29 (hval 0 _ v0 rfl rfl) h0
  obtain ⟨s1, rfl, rfl, rfl, w1⟩ := Go.ChangeMaps.open_string Tryz.underlying9 (hval 1 _ v1 rfl rfl) h1
  obtain ⟨⟨s1⟩⟩ := s1
  obtain ⟨a2, rfl, rfl, rfl, w2⟩ := open_int Tryz.underlying3 (hval 2 _ v2 rfl rfl) h2
  obtain ⟨a3, rfl, rfl, rfl, w3⟩ := open_int Tryz.underlying3 (hval 3 _ v3 rfl rfl) h3
  have z1 : s1.length ≤ 1048576 := bulk_str hbk (by simp)
  clear hA0
  simp only [List.append_nil] at hW'
  have he : Enters Tryz.prog 6 := enters_of Tryz.func6 (by kernel_rfl) (c := _) rfl
  refine (Pure.calls (valueMakes_fin a0 w0 s1 z1 a2 a3) he W hG).mono fun e' W' ⟨he', hb⟩ => ?_
  subst he'
  exact ⟨_, rfl, post_of_below hW' (fun _ _ _ => trodAll_cons_mk (shut_bool Tryz.underlying4 _) trodAll_mk0)
    (fun _ => trodAll_cons_mk (shut_int Tryz.underlying29 w0) (trodAll_cons_mk (Go.ChangeMaps.shut_string Tryz.underlying9 w1) (trodAll_cons_mk (shut_int Tryz.underlying3 w2) (trodAll_cons_mk (shut_int Tryz.underlying3 w3) trodAll_mk0)))) (fun _ => rfl) hb (ok_one (by kernel_rfl) rfl (okWide_bool_mk Tryz.underlying4 _))⟩

theorem valueMakes_laid (os : Os) : laidMet Tryz.prog Rows.valueMakesUptoRow.laid ((laidWorld os).forCall (fun _ _ => 0) ⟨#[], #[.int .u64 0, .string ⟨#[]⟩, .int .i64 0, .int .i64 0], []⟩).memory :=
  laidMet_of_run' 8 (by kernel_rfl) (by kernel_rfl)

theorem valueMakes_reads (os : Os) {H : Type} (enc : TypeId × Value → H) : ∃ places, DataW.whole enc Tryz.prog ((laidWorld os).forCall (fun _ _ => 0) ⟨#[], #[.int .u64 0, .string ⟨#[]⟩, .int .i64 0, .int .i64 0], []⟩).memory Tryz.f6.params.toList Rows.valueMakesSpec.vars false
    #[Value.int .u64 0, .string ⟨#[]⟩, .int .i64 0, .int .i64 0].toList 8 = some ([.lit (.int .u64 0), .lit (.string []), .lit (.int .i64 0), .lit (.int .i64 0)], [], places) :=
  ⟨[], by kernel_rfl⟩

set_option maxRecDepth 100000 in
theorem valueMakes_lifted (os : Os) (started : os.Started) (H : Type) (enc : TypeId × Value → H) (F : Stop.Interp) :
    ReturnsInHanded {} Tryz.checked os 6 .any ((Rows.OpenSpec.upto Rows.valueMakesSpec).preRow enc Tryz.prog Tryz.f6 Rows.valueMakesUptoRow.domain false Rows.valueMakesUptoRow.laid) (((Rows.OpenSpec.upto Rows.valueMakesSpec).at F).post enc Tryz.prog Tryz.f6 false true false false) := by
  obtain ⟨places, hx⟩ := valueMakes_reads os enc
  refine returnsInHanded_of_row (C := Tryz.checked) (s := Rows.OpenSpec.upto Rows.valueMakesSpec) own started (by kernel_rfl) Tryz.func6
    (witness_row_at (enc := enc) (C := Tryz.checked) false (laidWorld os) #[.int .u64 0, .string ⟨#[]⟩, .int .i64 0, .int .i64 0] rfl (by kernel_rfl) (by kernel_rfl) (by kernel_rfl)
      (OpenSpec.preRow_of_cond 8 hx (by kernel_rfl) (fun k hk => by cases hk; kernel_rfl) (by kernel_rfl) (valueMakes_laid os))) ?_
  intro W base args ds gs before hval hW _ hcond _ hL hS _
  exact valueMakes_contract H enc W base args ds gs before hval hW (hcond _ rfl) (inv_of_laid hL hS)

theorem valueMakes_j0 : (Rows.valueMakesUptoRow.wf (OpenSpec.ofChange (Rows.OpenSpec.upto Rows.valueMakesSpec).bare)) = true := by kernel_rfl
theorem valueMakes_j1 : (laidOutB Tryz.pinned.checked.prog) = true := by kernel_rfl
theorem valueMakes_j2 : (mapsRowed Tryz.pinned.checked.prog) = true := by kernel_rfl
theorem valueMakes_j3 : (Tryz.f6.params.all (Tryz.pinned.checked.prog.readableRec ·)) = true := by kernel_rfl
theorem valueMakes_j4 : (namedTie Tryz.pinned.checked.prog Rows.valueMakesUptoRow.named (Rows.OpenSpec.upto Rows.valueMakesSpec).bare.vars) = true := by kernel_rfl
theorem valueMakes_j5 : ((Rows.valueMakesUptoRow.stops == [])) = true := by kernel_rfl
theorem valueMakes_j6 : ((Tryz.pinned.checked.prog.stops == [])) = true := by kernel_rfl
theorem valueMakes_j7 : ((Rows.valueMakesUptoRow.knobs == [])) = true := by kernel_rfl
theorem valueMakes_j8 : ((Tryz.pinned.checked.prog.stopKnobs == [])) = true := by kernel_rfl
theorem valueMakes_j9 : ((Rows.valueMakesUptoRow.inPlace == Tryz.pinned.checked.prog.inPlace 6)) = true := by kernel_rfl
theorem valueMakes_j10 : ((Rows.valueMakesUptoRow.unfollowed == Tryz.pinned.checked.prog.unfollowed 6)) = true := by kernel_rfl
theorem valueMakes_j11 : ((Rows.valueMakesUptoRow.recurses == Tryz.pinned.checked.prog.recurses 6)) = true := by kernel_rfl
theorem valueMakes_j12 : ((Rows.valueMakesUptoRow.named == Tryz.pinned.checked.prog.varsNamed 6)) = true := by kernel_rfl
theorem valueMakes_j13 : ((Rows.valueMakesUptoRow.maps == (Tryz.f6.params.toList ++ (Rows.OpenSpec.upto Rows.valueMakesSpec).bare.plain.varTypes Tryz.pinned.checked.prog).any (Tryz.pinned.checked.prog.mapsRec ·))) = true := by kernel_rfl
theorem valueMakes_j14 : ((Rows.valueMakesUptoRow.ifaces == (Tryz.f6.params.toList ++ (Rows.OpenSpec.upto Rows.valueMakesSpec).bare.plain.varTypes Tryz.pinned.checked.prog).any (Tryz.pinned.checked.prog.ifacesRec ·))) = true := by kernel_rfl
theorem valueMakes_j15 : ((Rows.valueMakesUptoRow.mapsOut == Tryz.pinned.checked.prog.mapsAmong Tryz.f6.resultTypes.toList)) = true := by kernel_rfl
theorem valueMakes_j16 : ((Rows.valueMakesUptoRow.loops == (Tryz.f6.params.toList ++ (Rows.OpenSpec.upto Rows.valueMakesSpec).bare.plain.varTypes Tryz.pinned.checked.prog).any (Tryz.pinned.checked.prog.loopsFrom ·))) = true := by kernel_rfl
theorem valueMakes_j17 : ((Rows.valueMakesUptoRow.wideKeys == (Tryz.f6.params.toList ++ (Rows.OpenSpec.upto Rows.valueMakesSpec).bare.plain.varTypes Tryz.pinned.checked.prog ++ Tryz.f6.resultTypes.toList).any (Tryz.pinned.checked.prog.wideKeysFrom ·))) = true := by kernel_rfl
theorem valueMakes_j18 : ((Rows.OpenSpec.upto Rows.valueMakesSpec).bare.vars.all (Tryz.pinned.checked.prog.varReadable ·)) = true := by kernel_rfl
theorem valueMakes_j19 : (Tryz.f6.resultTypes.all (fun t => Tryz.pinned.checked.prog.readableRec t && decide (t < Tryz.pinned.checked.prog.types.size))) = true := by kernel_rfl
theorem valueMakes_j20 : ((Rows.valueMakesUptoRow.ifacesOut == Tryz.f6.resultTypes.toList.any (Tryz.pinned.checked.prog.ifacesRec ·))) = true := by kernel_rfl
theorem valueMakes_j21 : ((Rows.valueMakesUptoRow.loopsOut == Tryz.f6.resultTypes.toList.any (Tryz.pinned.checked.prog.loopsFrom ·))) = true := by kernel_rfl
theorem valueMakes_j22 : ((Rows.valueMakesUptoRow.plainKeys == Tryz.pinned.checked.prog.plainKeys)) = true := by kernel_rfl
theorem valueMakes_j23 : (Rows.valueMakesUptoRow.shortTexts.isNone) = true := by kernel_rfl
theorem valueMakes_j24 : (Tryz.pinned.checked.prog.stopsHeard) = true := by kernel_rfl
theorem valueMakes_j25 : (Tryz.pinned.checked.prog.mayEnter) = true := by kernel_rfl
theorem valueMakes_j26 : ((Rows.valueMakesUptoRow.lifted == Tryz.pinned.checked.prog.liftsFinal)) = true := by kernel_rfl
theorem valueMakes_j27 : ((Tryz.pinned.checked.prog.make == some Rows.valueMakesUptoRow.make)) = true := by kernel_rfl
theorem valueMakes_j28 : ((Rows.valueMakesUptoRow.kinds == (if Rows.valueMakesUptoRow.domain.isEmpty then [] else Tryz.f6.params.toList.map fun t => match Tryz.pinned.checked.prog.underlying t with | some (.int k) => some k | _ => none))) = true := by kernel_rfl
theorem valueMakes_j29 : ((Rows.valueMakesUptoRow.pinned == Rows.valueMakesUptoRow.pinnedBy)) = true := by kernel_rfl
theorem valueMakes_j30 : ((Rows.valueMakesUptoRow.veiled == (Tryz.f6.params.toList ++ (Rows.OpenSpec.upto Rows.valueMakesSpec).bare.plain.varTypes Tryz.pinned.checked.prog ++ Tryz.f6.resultTypes.toList).any (Tryz.pinned.checked.prog.veiledRec ·))) = true := by kernel_rfl
theorem valueMakes_j31 : (Rows.valueMakesUptoRow.veiledFits Tryz.pinned.checked.prog Tryz.f6.params.toList (Tryz.f6.params.toList ++ (Rows.OpenSpec.upto Rows.valueMakesSpec).bare.plain.varTypes Tryz.pinned.checked.prog ++ Tryz.f6.resultTypes.toList)) = true := by kernel_rfl
theorem and_mk {a b : Bool} (h1 : a = true) (h2 : b = true) : (a && b) = true := by rw [h1, h2]; rfl

set_option maxRecDepth 100000 in
/-- The closed facts on the row, one by one (together they ask too much memory). -/
theorem valueMakes_facts : joinedFacts Tryz.pinned.checked.prog 6 Tryz.f6 (Rows.OpenSpec.upto Rows.valueMakesSpec).bare Rows.valueMakesUptoRow = true := by
  unfold joinedFacts
  exact and_mk (and_mk (and_mk (and_mk (and_mk (and_mk (and_mk (and_mk (and_mk (and_mk (and_mk (and_mk (and_mk (and_mk (and_mk (and_mk (and_mk (and_mk (and_mk (and_mk (and_mk (and_mk (and_mk (and_mk (and_mk (and_mk (and_mk (and_mk (and_mk (and_mk (and_mk valueMakes_j0 valueMakes_j1) valueMakes_j2) valueMakes_j3) valueMakes_j4) valueMakes_j5) valueMakes_j6) valueMakes_j7) valueMakes_j8) valueMakes_j9) valueMakes_j10) valueMakes_j11) valueMakes_j12) valueMakes_j13) valueMakes_j14) valueMakes_j15) valueMakes_j16) valueMakes_j17) valueMakes_j18) valueMakes_j19) valueMakes_j20) valueMakes_j21) valueMakes_j22) valueMakes_j23) valueMakes_j24) valueMakes_j25) valueMakes_j26) valueMakes_j27) valueMakes_j28) valueMakes_j29) valueMakes_j30) valueMakes_j31

theorem valueMakes_looks : true = Tryz.pinned.checked.prog.looks [] := by kernel_rfl
theorem valueMakes_goes : false = Rows.valueMakesUptoRow.goesBy Tryz.pinned.checked.prog := by kernel_rfl
theorem valueMakes_text : Rows.valueMakesUptoRow.wfByText (Rows.OpenSpec.upto Rows.valueMakesSpec) = true := by kernel_rfl
theorem valueMakes_at : Tryz.pinned.checked.prog.funcNamed Rows.valueMakesUptoRow.func = some 6 := by kernel_rfl

theorem valueMakes_said : Rows.ValueMakesUptoSaid :=
  OpenClaim.holds_of_cond 6 Tryz.f6 rfl rfl rfl rfl rfl rfl rfl ⟨rfl, rfl, rfl, rfl, rfl⟩ rfl rfl rfl rfl rfl valueMakes_at Tryz.func6 valueMakes_facts
    (of_decide_eq_true (by kernel_rfl)) (by unfold Func.isWrapper; first | (rw [if_pos (by decide +kernel)]; kernel_rfl) | (rw [if_neg (by decide +kernel)]; exact ⟨rfl, rfl⟩))
    (fun os started H enc _ F => by rw [OpenClaim.pre_eq_preRow]; exact valueMakes_lifted os started H enc F)

theorem valueMakes_plain (f : FuncId) (fn : Func) (hf : Tryz.pinned.checked.prog.funcNamed "quadrille/quadrillelaw14.ValueMakes" = some f) (hfn : Tryz.pinned.checked.prog.funcs[f]? = some fn) :
    true = Tryz.pinned.checked.prog.looks [] ∧ ∀ (j : Nat) t, fn.params[j]? = some t → Tryz.pinned.checked.prog.wantsStandIn t = false := by
  obtain rfl : f = 6 := Option.some.inj ((show Tryz.prog.funcNamed "quadrille/quadrillelaw14.ValueMakes" = some 6 by kernel_rfl).symm.trans hf) |>.symm
  obtain rfl : fn = Tryz.f6 := (Option.some.inj (Tryz.func6.symm.trans hfn)).symm
  refine ⟨valueMakes_looks, fun j t ht => ?_⟩
  rw [Tryz.params6] at ht
  have hm := Array.mem_of_getElem? ht
  simp only [List.mem_toArray, List.mem_cons, List.not_mem_nil, or_false] at hm
  rcases hm with rfl | rfl | rfl | rfl
  · exact (show Tryz.prog.wantsStandIn 29 = false by kernel_rfl)
  · exact (show Tryz.prog.wantsStandIn 9 = false by kernel_rfl)
  · exact (show Tryz.prog.wantsStandIn 3 = false by kernel_rfl)
  · exact (show Tryz.prog.wantsStandIn 3 = false by kernel_rfl)

/-- THE CARD. -/
theorem valueMakes_card : Rows.ValueMakesUptoCardSaid :=
  Claim7.holds_tied_plain_at .later [] _ _ _ _ valueMakes_said (fun _ h => by cases h) valueMakes_text (fun _ h => by cases h) valueMakesUpto_row_tie rfl ⟨rfl, rfl⟩ (by kernel_rfl) rfl valueMakes_plain valueMakes_goes

#print axioms valueMakes_card
end Go.Proofs.YtaopinmjgjpiiaaGreatDoor
