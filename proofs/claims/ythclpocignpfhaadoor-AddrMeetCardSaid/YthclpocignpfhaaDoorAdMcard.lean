/-
  AddrMeet (layer 10): whatever two areas and whatever cell: the law answers true; each argument reads as it did. No condition.
-/
import Derived.Test.YthclpocignpfhaaDoorAdF
import Derived.Test.YthclpocignpfhaaDoorAdM
namespace Go.Proofs.YthclpocignpfhaaDoor
open Go.ChangeShapes Go.WideShapes Go.ChangeAt Go.RowKit

/-- What a table's reading lies in as cells. -/
def cellsD : Nat → DataW Unit → List Value
  | 0, _ => []
  | _ + 1, .lit (.int k n) => [.int k n]
  | f + 1, .agg l => l.flatMap (cellsD f)
  | _ + 1, _ => []

def putD (g : Nat) (d : DataW Unit) (h : Array Obj) : Array Obj := h.modify g fun
  | .cells _ t frozen => .cells (cellsD 4 d).toArray t frozen
  | o => o

/-- A world for the witness: the settled one, the tables holding what their initialisers lay. -/
noncomputable def laidWorld (os : Os) : World :=
  { World.holding Tryd.prog os ⟨#[], #[], []⟩ with heap := putD 0 Rows.laid_unicode_utf8_first (putD 1 Rows.laid_unicode_utf8_acceptRanges (putD 3 Rows.laid_internal_strconv_uint64pow10
      (putD 4 Rows.laid_math_bits_deBruijn32tab (putD 5 Rows.laid_math_bits_deBruijn64tab (World.holding Tryd.prog os ⟨#[], #[], []⟩).heap)))) }

theorem glob_room {W : World} (h : laidMetH Tryd.prog Rows.addrMeetRow.laid W) : Tryd.prog.globals.size ≤ W.heap.size := by
  have h' : laidMet Tryd.prog Rows.addrMeetRow.laid W := h
  obtain ⟨ps, ⟨g1, t1, cs1, f1, p1, q1, hg1, ht1, hvar1, hd1, ⟨g2, t2, cs2, f2, p2, q2, hg2, ht2, hvar2, hd2, _⟩, _⟩, _⟩ := h'
  have e : Tryd.prog.globalNamed "math/bits.deBruijn64tab" = some 5 := by kernel_rfl
  unfold World.var? at hvar2
  rw [e] at hvar2
  simp only [Option.bind_some] at hvar2
  have hlt : 5 < W.heap.size := by
    rcases Nat.lt_or_ge 5 W.heap.size with h1 | h1
    · exact h1
    · rw [Array.getElem?_eq_none h1] at hvar2
      cases hvar2
  have hs : Tryd.prog.globals.size = 5 + 1 := by kernel_rfl
  omega

theorem Pure.calls {P : Program} {J : Ev.Inv P} {f : FuncId} {args : List Value} {v : Value} (h : Ev.Pure P J f args v) (he : Enters P f) (w : World) (hI : J.I w) : Calls P f ⟨args⟩ w fun e w' => e = .returned v ∧ Below w.heap.size w w' := by
  obtain ⟨_, _, ⟨_, hc⟩ | hx⟩ := h
  · exact hc w hI
  · have := hx w hI
    rw [he _ _] at this
    cases this

set_option maxRecDepth 100000 in
theorem meet_contract (H : Type) (enc : TypeId × Value → H) (W : World) (base : Nat) (args : Array Value) (ds gs : List (DataW H)) (before : List MemPlace)
    (hval : ∀ (j : Nat) t v, Tryd.f7.params[j]? = some t → args[j]? = some v → Value.okWide Tryd.prog W .any base t v)
    (hW : DataW.Whole enc Tryd.prog Tryd.f7.params.toList Rows.addrMeetSpec.vars false W args.toList ds gs before) (hG : Tryd.prog.globals.size ≤ W.heap.size) :
    Calls Tryd.prog 7 args W fun e W' => ∃ v, e = .returned v ∧ Rows.addrMeetSpec.post enc Tryd.prog Tryd.f7 false true false false W args v W' := by
  have hW' := hW
  obtain ⟨p, q, hA0, hV, rfl, hfz, hnd⟩ := hW
  have hA : DataW.TrodAll enc Tryd.prog W 0 (fun _ => true) true Tryd.f7.params.toList args.toList ds p := hA0
  rw [Tryd.params7] at hA hval
  obtain ⟨v0, vs0, d0, ds0, p0, q0, hargs, rfl, rfl, h0, r0⟩ := trodAll_cons hA
  obtain ⟨v1, vs1, d1, ds1, p1, q1, rfl, rfl, rfl, h1, r1⟩ := trodAll_cons r0
  obtain ⟨v2, vs2, d2, ds2, p2, q2, rfl, rfl, rfl, h2, r2⟩ := trodAll_cons r1
  obtain ⟨rfl, rfl, rfl⟩ := trodAll_nil r2
  obtain rfl : args = #[v0, v1, v2] := by cases args; simp_all
  obtain ⟨rfl, rfl⟩ := trodVars_none hV
  obtain ⟨c, r, d, s, rfl, rfl, rfl, w0, w1, w2, w3⟩ := open_area (hval 0 _ v0 rfl rfl) h0
  obtain ⟨e, f, g, h, rfl, rfl, rfl, w4, w5, w6, w7⟩ := open_area (hval 1 _ v1 rfl rfl) h1
  obtain ⟨x, y, rfl, rfl, rfl, w8, w9⟩ := open_cell (hval 2 _ v2 rfl rfl) h2
  clear hA0
  simp only [List.append_nil] at hW'
  have he : Enters Tryd.prog 7 := enters_of Tryd.func7 (by kernel_rfl) (c := _) rfl
  refine (Pure.calls (addrMeet_pure c r d s e f g h x y) he W hG).mono fun e' W' ⟨he', hb⟩ => ?_
  subst he'
  exact ⟨_, rfl, post_of_below hW' (fun _ _ _ => trodAll_cons_mk (shut_bool Tryd.underlying4 _) trodAll_mk0)
    (fun _ => trodAll_cons_mk (shut_area w0 w1 w2 w3) (trodAll_cons_mk (shut_area w4 w5 w6 w7) (trodAll_cons_mk (shut_cell w8 w9) trodAll_mk0))) (fun _ => rfl) hb (ok_one (by kernel_rfl) rfl (okWide_bool_mk Tryd.underlying4 _))⟩

theorem meet_laid (os : Os) : laidMet Tryd.prog Rows.addrMeetRow.laid ((laidWorld os).forCall (fun _ _ => 0) ⟨#[], #[.agg ⟨[.int .i64 0, .int .i64 0, .int .i64 0, .int .i64 0]⟩, .agg ⟨[.int .i64 0, .int .i64 0, .int .i64 0, .int .i64 0]⟩, .agg ⟨[.int .i64 0, .int .i64 0]⟩], []⟩).memory :=
  laidMet_of_run' 8 (by kernel_rfl) (by kernel_rfl)

theorem meet_reads (os : Os) {H : Type} (enc : TypeId × Value → H) : ∃ places, DataW.whole enc Tryd.prog ((laidWorld os).forCall (fun _ _ => 0) ⟨#[], #[.agg ⟨[.int .i64 0, .int .i64 0, .int .i64 0, .int .i64 0]⟩, .agg ⟨[.int .i64 0, .int .i64 0, .int .i64 0, .int .i64 0]⟩, .agg ⟨[.int .i64 0, .int .i64 0]⟩], []⟩).memory Tryd.f7.params.toList Rows.addrMeetSpec.vars false
    #[Value.agg ⟨[.int .i64 0, .int .i64 0, .int .i64 0, .int .i64 0]⟩, .agg ⟨[.int .i64 0, .int .i64 0, .int .i64 0, .int .i64 0]⟩, .agg ⟨[.int .i64 0, .int .i64 0]⟩].toList 8 = some ([dArea 0 0 0 0, dArea 0 0 0 0, dCell 0 0], [], places) :=
  ⟨[], by kernel_rfl⟩

set_option maxRecDepth 100000 in
theorem meet_lifted (os : Os) (started : os.Started) (H : Type) (enc : TypeId × Value → H) (F : Stop.Interp) :
    ReturnsInHanded {} Tryd.checked os 7 .any ((OpenSpec.ofChange Rows.addrMeetSpec).preRow enc Tryd.prog Tryd.f7 Rows.addrMeetRow.domain false Rows.addrMeetRow.laid) (((OpenSpec.ofChange Rows.addrMeetSpec).at F).post enc Tryd.prog Tryd.f7 false true false false) := by
  obtain ⟨places, hx⟩ := meet_reads os enc
  refine returnsInHanded_of_row (C := Tryd.checked) (s := OpenSpec.ofChange Rows.addrMeetSpec) own started (by kernel_rfl) Tryd.func7
    (witness_row_at (enc := enc) (C := Tryd.checked) false (laidWorld os) #[.agg ⟨[.int .i64 0, .int .i64 0, .int .i64 0, .int .i64 0]⟩, .agg ⟨[.int .i64 0, .int .i64 0, .int .i64 0, .int .i64 0]⟩, .agg ⟨[.int .i64 0, .int .i64 0]⟩] rfl (by kernel_rfl) (by kernel_rfl) (by kernel_rfl)
      (OpenSpec.preRow_of_cond 8 hx (by kernel_rfl) (fun k hk => by cases hk) (by kernel_rfl) (meet_laid os))) ?_
  intro W base args ds gs before hval hW _ _ _ hL _ _
  exact meet_contract H enc W base args ds gs before hval hW (glob_room hL)

theorem meet_said : Rows.AddrMeetSaid :=
  OpenClaim.holds_of_cond 7 Tryd.f7 rfl rfl rfl rfl rfl rfl rfl ⟨rfl, rfl, rfl, rfl, rfl⟩ rfl rfl rfl rfl rfl (by kernel_rfl) Tryd.func7 (by kernel_rfl)
    (of_decide_eq_true (by kernel_rfl)) (by unfold Func.isWrapper; first | (rw [if_pos (by decide +kernel)]; kernel_rfl) | (rw [if_neg (by decide +kernel)]; exact ⟨rfl, rfl⟩))
    (fun os started H enc _ F => by rw [OpenClaim.pre_eq_preRow]; exact meet_lifted os started H enc F)

theorem meet_plain (f : FuncId) (fn : Func) (hf : Tryd.pinned.checked.prog.funcNamed "quadrille/quadrillelaw10.AddrMeet" = some f) (hfn : Tryd.pinned.checked.prog.funcs[f]? = some fn) :
    false = Tryd.pinned.checked.prog.looks [] ∧ ∀ (j : Nat) t, fn.params[j]? = some t → Tryd.pinned.checked.prog.wantsStandIn t = false := by
  obtain rfl : f = 7 := Option.some.inj ((show Tryd.prog.funcNamed "quadrille/quadrillelaw10.AddrMeet" = some 7 by kernel_rfl).symm.trans hf) |>.symm
  obtain rfl : fn = Tryd.f7 := (Option.some.inj (Tryd.func7.symm.trans hfn)).symm
  refine ⟨by kernel_rfl, fun j t ht => ?_⟩
  rw [Tryd.params7] at ht
  have hm := Array.mem_of_getElem? ht
  simp only [List.mem_toArray, List.mem_cons, List.not_mem_nil, or_false] at hm
  rcases hm with rfl | rfl | rfl
  · exact (show Tryd.prog.wantsStandIn 31 = false by kernel_rfl)
  · exact (show Tryd.prog.wantsStandIn 31 = false by kernel_rfl)
  · exact (show Tryd.prog.wantsStandIn 24 = false by kernel_rfl)

/-- THE CARD. -/
theorem addrMeet_card : Rows.AddrMeetCardSaid :=
  Claim7.holds_tied_plain_at .later [] _ _ _ _ meet_said (fun _ h => by cases h) (by kernel_rfl) (fun _ h => by cases h) addrMeet_row_tie rfl ⟨rfl, rfl⟩ (by kernel_rfl) rfl meet_plain (by kernel_rfl)

#print axioms addrMeet_card
end Go.Proofs.YthclpocignpfhaaDoor
