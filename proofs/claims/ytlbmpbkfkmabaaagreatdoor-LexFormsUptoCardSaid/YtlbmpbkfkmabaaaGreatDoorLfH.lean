/-
  LexForms (layer 11): whatever the arguments: the law answers true; each argument reads as it did. Condition: what is read is of bulk at most 1048576.
-/
import Derived.Test.YtlbmpbkfkmabaaaGreatDoorVaI
import Derived.Test.YtlbmpbkfkmabaaaGreatDoorLfG
import Derived.Test.YtlbmpbkfkmabaaaGreatDoorLfF
namespace Go.Proofs.YtlbmpbkfkmabaaaGreatDoor
open Go.ChangeShapes Go.WideShapes Go.ChangeAt Go.RowKit

set_option maxRecDepth 100000 in
theorem lexForms_contract (H : Type) (enc : TypeId × Value → H) (W : World) (base : Nat) (args : Array Value) (ds gs : List (DataW H)) (before : List MemPlace)
    (hval : ∀ (j : Nat) t v, Tryz.f4.params[j]? = some t → args[j]? = some v → Value.okWide Tryz.prog W .any base t v)
    (hW : DataW.Whole enc Tryz.prog Tryz.f4.params.toList Rows.lexFormsSpec.vars false W args.toList ds gs before) (hbk : Rows.uptoSmall H (ds ++ gs) = true) (hG : J0.I W) :
    Calls Tryz.prog 4 args W fun e W' => ∃ v, e = .returned v ∧ Rows.lexFormsSpec.post enc Tryz.prog Tryz.f4 false true false false W args v W' := by
  have hW' := hW
  obtain ⟨p, q, hA0, hV, rfl, hfz, hnd⟩ := hW
  have hA : DataW.TrodAll enc Tryz.prog W 0 (fun _ => true) true Tryz.f4.params.toList args.toList ds p := hA0
  rw [Tryz.params4] at hA hval
  obtain ⟨v0, vs0, d0, ds0, p0, q0, hargs, rfl, rfl, h0, r0⟩ := trodAll_cons hA
  obtain ⟨rfl, rfl, rfl⟩ := trodAll_nil r0
  obtain rfl : args = #[v0] := by cases args; simp_all
  obtain ⟨rfl, rfl⟩ := trodVars_none hV
  obtain ⟨F0, n0, o0, c0, l0, _, e0⟩ := open_fam (P := Tryz.prog) strV strD (fun _ => True) Tryz.underlying23 (show Tryz.prog.cellsOf 9 = 1 by kernel_rfl) (hval 0 _ v0 rfl rfl) h0 str_elem
  have z0 : ∀ j, j < n0 → (F0 j).length ≤ 1048576 := by
    rcases e0 with ⟨_, rfl⟩ | ⟨rest, rfl⟩
    · intro j hj; omega
    · exact bulk_texts hbk
  clear hA0
  simp only [List.append_nil] at hW'
  have hsem := (lexForms_sem F0 n0 o0 (Nat.le_trans l0 (by decide)) z0).2 W [v0] hG (.cons c0 .nil)
  have hT : ∀ t ∈ Tryz.f4.params.toList, t < Tryz.prog.types.size := by
    rw [Tryz.params4]
    intro t ht
    simp only [List.mem_cons, List.not_mem_nil, or_false] at ht
    rcases ht with rfl <;> exact of_decide_eq_true (by kernel_rfl)
  refine hsem.mono fun e' W' ⟨us', he', hb, hc, _⟩ => ?_
  obtain ⟨y, ys, rfl, ⟨rfl, _⟩, hnil⟩ := hc.cons_inv
  obtain rfl := hnil.nil_inv
  subst he'
  exact ⟨_, rfl, post_of_reads kids slices_full hT rfl hW' (fun _ _ _ => trodAll_cons_mk (shut_bool Tryz.underlying4 _) trodAll_mk0) rfl rfl hb (ok_one (by kernel_rfl) rfl (okWide_bool_mk Tryz.underlying4 _))⟩

theorem lexForms_laid (os : Os) : laidMet Tryz.prog Rows.lexFormsUptoRow.laid ((laidWorld os).forCall (fun _ _ => 0) ⟨#[], #[.slice none 0 0], []⟩).memory :=
  laidMet_of_run' 8 (by kernel_rfl) (by kernel_rfl)

theorem lexForms_reads (os : Os) {H : Type} (enc : TypeId × Value → H) : ∃ places, DataW.whole enc Tryz.prog ((laidWorld os).forCall (fun _ _ => 0) ⟨#[], #[.slice none 0 0], []⟩).memory Tryz.f4.params.toList Rows.lexFormsSpec.vars false
    #[Value.slice none 0 0].toList 8 = some ([.nil], [], places) :=
  ⟨[], by kernel_rfl⟩

set_option maxRecDepth 100000 in
theorem lexForms_lifted (os : Os) (started : os.Started) (H : Type) (enc : TypeId × Value → H) (F : Stop.Interp) :
    ReturnsInHanded {} Tryz.checked os 4 .any ((Rows.OpenSpec.upto Rows.lexFormsSpec).preRow enc Tryz.prog Tryz.f4 Rows.lexFormsUptoRow.domain false Rows.lexFormsUptoRow.laid) (((Rows.OpenSpec.upto Rows.lexFormsSpec).at F).post enc Tryz.prog Tryz.f4 false true false false) := by
  obtain ⟨places, hx⟩ := lexForms_reads os enc
  refine returnsInHanded_of_row (C := Tryz.checked) (s := Rows.OpenSpec.upto Rows.lexFormsSpec) own started (by kernel_rfl) Tryz.func4
    (witness_row_at (enc := enc) (C := Tryz.checked) false (laidWorld os) #[.slice none 0 0] rfl (by kernel_rfl) (by kernel_rfl) (by kernel_rfl)
      (OpenSpec.preRow_of_cond 8 hx (by kernel_rfl) (fun k hk => by cases hk; kernel_rfl) (by kernel_rfl) (lexForms_laid os))) ?_
  intro W base args ds gs before hval hW _ hcond _ hL hS _
  exact lexForms_contract H enc W base args ds gs before hval hW (hcond _ rfl) (inv_of_laid hL hS)

theorem lexForms_j0 : (Rows.lexFormsUptoRow.wf (OpenSpec.ofChange (Rows.OpenSpec.upto Rows.lexFormsSpec).bare)) = true := by kernel_rfl
theorem lexForms_j1 : (laidOutB Tryz.pinned.checked.prog) = true := by kernel_rfl
theorem lexForms_j2 : (mapsRowed Tryz.pinned.checked.prog) = true := by kernel_rfl
theorem lexForms_j3 : (Tryz.f4.params.all (Tryz.pinned.checked.prog.readableRec ·)) = true := by kernel_rfl
theorem lexForms_j4 : (namedTie Tryz.pinned.checked.prog Rows.lexFormsUptoRow.named (Rows.OpenSpec.upto Rows.lexFormsSpec).bare.vars) = true := by kernel_rfl
theorem lexForms_j5 : ((Rows.lexFormsUptoRow.stops == [])) = true := by kernel_rfl
theorem lexForms_j6 : ((Tryz.pinned.checked.prog.stops == [])) = true := by kernel_rfl
theorem lexForms_j7 : ((Rows.lexFormsUptoRow.knobs == [])) = true := by kernel_rfl
theorem lexForms_j8 : ((Tryz.pinned.checked.prog.stopKnobs == [])) = true := by kernel_rfl
theorem lexForms_j9 : ((Rows.lexFormsUptoRow.inPlace == Tryz.pinned.checked.prog.inPlace 4)) = true := by kernel_rfl
theorem lexForms_j10 : ((Rows.lexFormsUptoRow.unfollowed == Tryz.pinned.checked.prog.unfollowed 4)) = true := by kernel_rfl
theorem lexForms_j11 : ((Rows.lexFormsUptoRow.recurses == Tryz.pinned.checked.prog.recurses 4)) = true := by kernel_rfl
theorem lexForms_j12 : ((Rows.lexFormsUptoRow.named == Tryz.pinned.checked.prog.varsNamed 4)) = true := by kernel_rfl
theorem lexForms_j13 : ((Rows.lexFormsUptoRow.maps == (Tryz.f4.params.toList ++ (Rows.OpenSpec.upto Rows.lexFormsSpec).bare.plain.varTypes Tryz.pinned.checked.prog).any (Tryz.pinned.checked.prog.mapsRec ·))) = true := by kernel_rfl
theorem lexForms_j14 : ((Rows.lexFormsUptoRow.ifaces == (Tryz.f4.params.toList ++ (Rows.OpenSpec.upto Rows.lexFormsSpec).bare.plain.varTypes Tryz.pinned.checked.prog).any (Tryz.pinned.checked.prog.ifacesRec ·))) = true := by kernel_rfl
theorem lexForms_j15 : ((Rows.lexFormsUptoRow.mapsOut == Tryz.pinned.checked.prog.mapsAmong Tryz.f4.resultTypes.toList)) = true := by kernel_rfl
theorem lexForms_j16 : ((Rows.lexFormsUptoRow.loops == (Tryz.f4.params.toList ++ (Rows.OpenSpec.upto Rows.lexFormsSpec).bare.plain.varTypes Tryz.pinned.checked.prog).any (Tryz.pinned.checked.prog.loopsFrom ·))) = true := by kernel_rfl
theorem lexForms_j17 : ((Rows.lexFormsUptoRow.wideKeys == (Tryz.f4.params.toList ++ (Rows.OpenSpec.upto Rows.lexFormsSpec).bare.plain.varTypes Tryz.pinned.checked.prog ++ Tryz.f4.resultTypes.toList).any (Tryz.pinned.checked.prog.wideKeysFrom ·))) = true := by kernel_rfl
theorem lexForms_j18 : ((Rows.OpenSpec.upto Rows.lexFormsSpec).bare.vars.all (Tryz.pinned.checked.prog.varReadable ·)) = true := by kernel_rfl
theorem lexForms_j19 : (Tryz.f4.resultTypes.all (fun t => Tryz.pinned.checked.prog.readableRec t && decide (t < Tryz.pinned.checked.prog.types.size))) = true := by kernel_rfl
theorem lexForms_j20 : ((Rows.lexFormsUptoRow.ifacesOut == Tryz.f4.resultTypes.toList.any (Tryz.pinned.checked.prog.ifacesRec ·))) = true := by kernel_rfl
theorem lexForms_j21 : ((Rows.lexFormsUptoRow.loopsOut == Tryz.f4.resultTypes.toList.any (Tryz.pinned.checked.prog.loopsFrom ·))) = true := by kernel_rfl
theorem lexForms_j22 : ((Rows.lexFormsUptoRow.plainKeys == Tryz.pinned.checked.prog.plainKeys)) = true := by kernel_rfl
theorem lexForms_j23 : (Rows.lexFormsUptoRow.shortTexts.isNone) = true := by kernel_rfl
theorem lexForms_j24 : (Tryz.pinned.checked.prog.stopsHeard) = true := by kernel_rfl
theorem lexForms_j25 : (Tryz.pinned.checked.prog.mayEnter) = true := by kernel_rfl
theorem lexForms_j26 : ((Rows.lexFormsUptoRow.lifted == Tryz.pinned.checked.prog.liftsFinal)) = true := by kernel_rfl
theorem lexForms_j27 : ((Tryz.pinned.checked.prog.make == some Rows.lexFormsUptoRow.make)) = true := by kernel_rfl
theorem lexForms_j28 : ((Rows.lexFormsUptoRow.kinds == (if Rows.lexFormsUptoRow.domain.isEmpty then [] else Tryz.f4.params.toList.map fun t => match Tryz.pinned.checked.prog.underlying t with | some (.int k) => some k | _ => none))) = true := by kernel_rfl
theorem lexForms_j29 : ((Rows.lexFormsUptoRow.pinned == Rows.lexFormsUptoRow.pinnedBy)) = true := by kernel_rfl
theorem lexForms_j30 : ((Rows.lexFormsUptoRow.veiled == (Tryz.f4.params.toList ++ (Rows.OpenSpec.upto Rows.lexFormsSpec).bare.plain.varTypes Tryz.pinned.checked.prog ++ Tryz.f4.resultTypes.toList).any (Tryz.pinned.checked.prog.veiledRec ·))) = true := by kernel_rfl
theorem lexForms_j31 : (Rows.lexFormsUptoRow.veiledFits Tryz.pinned.checked.prog Tryz.f4.params.toList (Tryz.f4.params.toList ++ (Rows.OpenSpec.upto Rows.lexFormsSpec).bare.plain.varTypes Tryz.pinned.checked.prog ++ Tryz.f4.resultTypes.toList)) = true := by kernel_rfl
theorem and_mk {a b : Bool} (h1 : a = true) (h2 : b = true) : (a && b) = true := by rw [h1, h2]; rfl

set_option maxRecDepth 100000 in
/-- The closed facts on the row, one by one (together they ask too much memory). -/
theorem lexForms_facts : joinedFacts Tryz.pinned.checked.prog 4 Tryz.f4 (Rows.OpenSpec.upto Rows.lexFormsSpec).bare Rows.lexFormsUptoRow = true := by
  unfold joinedFacts
  exact and_mk (and_mk (and_mk (and_mk (and_mk (and_mk (and_mk (and_mk (and_mk (and_mk (and_mk (and_mk (and_mk (and_mk (and_mk (and_mk (and_mk (and_mk (and_mk (and_mk (and_mk (and_mk (and_mk (and_mk (and_mk (and_mk (and_mk (and_mk (and_mk (and_mk (and_mk lexForms_j0 lexForms_j1) lexForms_j2) lexForms_j3) lexForms_j4) lexForms_j5) lexForms_j6) lexForms_j7) lexForms_j8) lexForms_j9) lexForms_j10) lexForms_j11) lexForms_j12) lexForms_j13) lexForms_j14) lexForms_j15) lexForms_j16) lexForms_j17) lexForms_j18) lexForms_j19) lexForms_j20) lexForms_j21) lexForms_j22) lexForms_j23) lexForms_j24) lexForms_j25) lexForms_j26) lexForms_j27) lexForms_j28) lexForms_j29) lexForms_j30) lexForms_j31

theorem lexForms_looks : true = Tryz.pinned.checked.prog.looks [] := by kernel_rfl
theorem lexForms_goes : false = Rows.lexFormsUptoRow.goesBy Tryz.pinned.checked.prog := by kernel_rfl
theorem lexForms_text : Rows.lexFormsUptoRow.wfByText (Rows.OpenSpec.upto Rows.lexFormsSpec) = true := by kernel_rfl
theorem lexForms_at : Tryz.pinned.checked.prog.funcNamed Rows.lexFormsUptoRow.func = some 4 := by kernel_rfl

theorem lexForms_said : Rows.LexFormsUptoSaid :=
  OpenClaim.holds_of_cond 4 Tryz.f4 rfl rfl rfl rfl rfl rfl rfl ⟨rfl, rfl, rfl, rfl, rfl⟩ rfl rfl rfl rfl rfl lexForms_at Tryz.func4 lexForms_facts
    (of_decide_eq_true (by kernel_rfl)) (by unfold Func.isWrapper; first | (rw [if_pos (by decide +kernel)]; kernel_rfl) | (rw [if_neg (by decide +kernel)]; exact ⟨rfl, rfl⟩))
    (fun os started H enc _ F => by rw [OpenClaim.pre_eq_preRow]; exact lexForms_lifted os started H enc F)

theorem lexForms_plain (f : FuncId) (fn : Func) (hf : Tryz.pinned.checked.prog.funcNamed "quadrille/quadrillelaw11.LexForms" = some f) (hfn : Tryz.pinned.checked.prog.funcs[f]? = some fn) :
    true = Tryz.pinned.checked.prog.looks [] ∧ ∀ (j : Nat) t, fn.params[j]? = some t → Tryz.pinned.checked.prog.wantsStandIn t = false := by
  obtain rfl : f = 4 := Option.some.inj ((show Tryz.prog.funcNamed "quadrille/quadrillelaw11.LexForms" = some 4 by kernel_rfl).symm.trans hf) |>.symm
  obtain rfl : fn = Tryz.f4 := (Option.some.inj (Tryz.func4.symm.trans hfn)).symm
  refine ⟨lexForms_looks, fun j t ht => ?_⟩
  rw [Tryz.params4] at ht
  have hm := Array.mem_of_getElem? ht
  simp only [List.mem_toArray, List.mem_cons, List.not_mem_nil, or_false] at hm
  rcases hm with rfl
  · exact (show Tryz.prog.wantsStandIn 23 = false by kernel_rfl)

/-- THE CARD. -/
theorem lexForms_card : Rows.LexFormsUptoCardSaid :=
  Claim7.holds_tied_plain_at .later [] _ _ _ _ lexForms_said (fun _ h => by cases h) lexForms_text (fun _ h => by cases h) lexFormsUpto_row_tie rfl ⟨rfl, rfl⟩ (by kernel_rfl) rfl lexForms_plain lexForms_goes

#print axioms lexForms_card
end Go.Proofs.YtlbmpbkfkmabaaaGreatDoor
