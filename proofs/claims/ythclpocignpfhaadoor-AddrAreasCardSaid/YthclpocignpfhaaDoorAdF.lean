/-
  Layer 10 (addr): from a contract to a law's card: cells and areas as arguments, opened and shut.
-/
import Derived.Test.YthclpocignpfhaaDoorCards
import Derived.Test.YthclpocignpfhaaDoorTie
import Derived.Test.YthclpocignpfhaaDoorEvK
import Derived.WalkKit
import Derived.ProofKit
import Derived.OpenShut
import Derived.Carry
import Derived.Deep.DeepHandedRow
import Derived.Lib.LaidTab
import Derived.Lib.SmallJoins
import Derived.Deep.Strs
import Derived.Test.YthclpocignpfhaaDoorAdA
namespace Go.Proofs.YthclpocignpfhaaDoor
open Go.ChangeShapes Go.WideShapes Go.ChangeAt Go.RowKit Go.Joins

theorem own : ownKnob Tryd.prog.godebug = none := by kernel_rfl

/-- 'post_of_same' where the call has laid blocks of its own. -/
theorem post_of_below {H : Type} {enc : TypeId × Value → H} {P : Program} {f : Func} {s : ChangeSpec} {apart fresh handsOn again : Bool} {W W' : World} {args : Array Value} {v : Value} {ds gs : List (DataW H)}
    (hW : DataW.Whole enc P f.params.toList s.vars apart W args.toList ds gs [])
    (hres : ∀ (b : Nat) (sp : Nat → Bool) (hd : Bool), DataW.TrodAll enc P W' b sp hd f.resultTypes.toList (v.resultList f.resultTypes.size) (s.fn H (ds ++ gs)).results [])
    (hargs : ∀ sp : Nat → Bool, DataW.TrodAll enc P W' 0 sp true f.params.toList args.toList (s.fn H (ds ++ gs)).args [])
    (hvars : ∀ sp : Nat → Bool, DataW.TrodVars enc P W' sp s.vars (s.fn H (ds ++ gs)).vars [])
    (hk : Below W.heap.size W W')
    (hok : ∀ (j : Nat) (t : TypeId) (r : Value), f.resultTypes[j]? = some t → (v.resultList f.resultTypes.size)[j]? = some r → Value.okWide P W' .any 0 t r) :
    s.post enc P f apart fresh handsOn again W args v W' := by
  refine ⟨ds, gs, [], [], [], [], hW, hres _ _ _, hargs _, hvars _, World.keptBut_mono (fun p hp => ⟨hp, ?_⟩) (hk.frame (· ∈ [])), fun _ => ?_⟩
  · cases hp
  · refine ⟨hok, _, _, ([] ++ []) ++ [], ⟨[] ++ [], [], trodAll_append (hargs _) (hres _ _ _), hvars _, rfl, ?_, ?_⟩, ?_⟩
    · intro b off hp
      simp at hp
    · intro ha
      simp
    · intro p hp _
      simp at hp

section
variable {H : Type} {enc : TypeId × Value → H} {W : World} {base : Nat} {spare : Nat → Bool} {held : Bool}

def dI (n : Int) : DataW H := .lit (.int .i64 n)
def dCell (c r : Int) : DataW H := .agg [dI c, dI r]
def dArea (c r d s : Int) : DataW H := .agg [dCell c r, dCell d s]

theorem trod_cell {n : Nat} {c0 c1 : Value} {y : DataW H × List MemPlace} (h : DataW.trod enc Tryd.prog W base spare held n 24 [c0, c1] = some y) :
    ∃ c r, c0 = .int .i64 c ∧ c1 = .int .i64 r ∧ y = (dCell c r, []) ∧ (Lit.int .i64 c).wf = true ∧ (Lit.int .i64 r).wf = true := by
  obtain ⟨y0, y1, m, hx, _, h0, h1⟩ := trod_struct2 Tryd.underlying24 h
  obtain ⟨c, e0, x0, w0⟩ := DataW.trod_int Tryd.underlying3 h0
  obtain ⟨r, e1, x1, w1⟩ := DataW.trod_int Tryd.underlying3 h1
  have k : Tryd.prog.cellsOf 3 = 1 := by kernel_rfl
  simp [k] at e0 e1
  subst x0 x1
  exact ⟨c, r, e0, e1, hx, w0, w1⟩

theorem trod_cell_mk {c r : Int} (w0 : (Lit.int .i64 c).wf = true) (w1 : (Lit.int .i64 r).wf = true) (n : Nat) : DataW.trod enc Tryd.prog W base spare held (n + 2) 24 [.int .i64 c, .int .i64 r] = some (dCell c r, []) := by
  have k : Tryd.prog.cellsOf 3 = 1 := by kernel_rfl
  have k2 : Tryd.prog.cellsOf 24 = 2 := by kernel_rfl
  have e0 : DataW.trod enc Tryd.prog W base spare held (n + 1) 3 [.int .i64 c] = some (dI c, []) := trod_int_mk n Tryd.underlying3 w0
  have e1 : DataW.trod enc Tryd.prog W base spare held (n + 1) 3 [.int .i64 r] = some (dI r, []) := trod_int_mk n Tryd.underlying3 w1
  have := trod_struct2_mk (enc := enc) (w := W) (base := base) (spare := spare) (held := held) (n := n + 1) (cs := [.int .i64 c, .int .i64 r]) (y0 := (dI c, [])) (y1 := (dI r, [])) Tryd.underlying24 (by simp [k2]) (by simpa [k] using e0) (by simpa [k] using e1)
  simpa [dCell] using this

theorem open_cell {r : Reach} {b0 : Nat} {v : Value} {d : DataW H} {p : List MemPlace} (hv : Value.okWide Tryd.prog W r b0 24 v) (h : DataW.Trod enc Tryd.prog W base spare held 24 v d p) :
    ∃ c w, v = .agg ⟨[.int .i64 c, .int .i64 w]⟩ ∧ d = dCell c w ∧ p = [] ∧ (Lit.int .i64 c).wf = true ∧ (Lit.int .i64 w).wf = true := by
  obtain ⟨cs, rfl, hsz⟩ := okWide_struct Tryd.underlying24 hv
  obtain ⟨c0, c1, rfl⟩ := array2 (hsz.trans (show Tryd.prog.cellsOf 24 = 2 by kernel_rfl))
  obtain ⟨n, h⟩ := h
  obtain ⟨c, w, rfl, rfl, e, w0, w1⟩ := trod_cell (show DataW.trod enc Tryd.prog W base spare held n 24 [c0, c1] = some (d, p) from h)
  cases e
  exact ⟨c, w, rfl, rfl, rfl, w0, w1⟩

theorem shut_cell {c r : Int} (w0 : (Lit.int .i64 c).wf = true) (w1 : (Lit.int .i64 r).wf = true) : DataW.Trod enc Tryd.prog W base spare held 24 (.agg ⟨[.int .i64 c, .int .i64 r]⟩) (dCell c r) [] :=
  ⟨0 + 2, trod_cell_mk w0 w1 0⟩

theorem open_area {r : Reach} {b0 : Nat} {v : Value} {d : DataW H} {p : List MemPlace} (hv : Value.okWide Tryd.prog W r b0 31 v) (h : DataW.Trod enc Tryd.prog W base spare held 31 v d p) :
    ∃ a b c e, v = .agg ⟨[.int .i64 a, .int .i64 b, .int .i64 c, .int .i64 e]⟩ ∧ d = dArea a b c e ∧ p = [] ∧ (Lit.int .i64 a).wf = true ∧ (Lit.int .i64 b).wf = true ∧ (Lit.int .i64 c).wf = true ∧ (Lit.int .i64 e).wf = true := by
  obtain ⟨cs, rfl, hsz⟩ := okWide_struct Tryd.underlying31 hv
  obtain ⟨c0, c1, c2, c3, rfl⟩ := array4 (hsz.trans (show Tryd.prog.cellsOf 31 = 4 by kernel_rfl))
  obtain ⟨n, h⟩ := h
  obtain ⟨y0, y1, m, hx, _, h0, h1⟩ := trod_struct2 Tryd.underlying31 h
  have k : Tryd.prog.cellsOf 24 = 2 := by kernel_rfl
  obtain ⟨a, b, rfl, rfl, e0, w0, w1⟩ := trod_cell (show DataW.trod enc Tryd.prog W base spare held m 24 [c0, c1] = some y0 by simpa [k, Value.cells] using h0)
  obtain ⟨c, e, rfl, rfl, e1, w2, w3⟩ := trod_cell (show DataW.trod enc Tryd.prog W base spare held m 24 [c2, c3] = some y1 by simpa [k, Value.cells] using h1)
  subst e0 e1
  cases hx
  exact ⟨a, b, c, e, rfl, rfl, rfl, w0, w1, w2, w3⟩

theorem shut_area {a b c e : Int} (w0 : (Lit.int .i64 a).wf = true) (w1 : (Lit.int .i64 b).wf = true) (w2 : (Lit.int .i64 c).wf = true) (w3 : (Lit.int .i64 e).wf = true) :
    DataW.Trod enc Tryd.prog W base spare held 31 (.agg ⟨[.int .i64 a, .int .i64 b, .int .i64 c, .int .i64 e]⟩) (dArea a b c e) [] := by
  have k : Tryd.prog.cellsOf 24 = 2 := by kernel_rfl
  have k4 : Tryd.prog.cellsOf 31 = 4 := by kernel_rfl
  have := trod_struct2_mk (enc := enc) (w := W) (base := base) (spare := spare) (held := held) (n := 2) (cs := [.int .i64 a, .int .i64 b, .int .i64 c, .int .i64 e]) (y0 := (dCell a b, [])) (y1 := (dCell c e, [])) Tryd.underlying31 (by simp [k4]) (by simpa [k] using trod_cell_mk w0 w1 0) (by simpa [k] using trod_cell_mk w2 w3 0)
  exact ⟨3, by simpa [Value.cells, dArea] using this⟩

def dRef (c r : Int) (p q : Bool) : DataW H := .agg [dCell c r, .lit (.bool p), .lit (.bool q)]

theorem open_ref {r : Reach} {b0 : Nat} {v : Value} {d : DataW H} {p : List MemPlace} (hv : Value.okWide Tryd.prog W r b0 26 v) (h : DataW.Trod enc Tryd.prog W base spare held 26 v d p) :
    ∃ a b x y, v = .agg ⟨[.int .i64 a, .int .i64 b, .bool x, .bool y]⟩ ∧ d = dRef a b x y ∧ p = [] ∧ (Lit.int .i64 a).wf = true ∧ (Lit.int .i64 b).wf = true := by
  obtain ⟨cs, rfl, hsz⟩ := okWide_struct Tryd.underlying26 hv
  obtain ⟨c0, c1, c2, c3, rfl⟩ := array4 (hsz.trans (show Tryd.prog.cellsOf 26 = 4 by kernel_rfl))
  obtain ⟨n, h⟩ := h
  obtain ⟨y0, y1, y2, m, hx, _, h0, h1, h2⟩ := Deep.trod_struct3 Tryd.underlying26 h
  have k : Tryd.prog.cellsOf 24 = 2 := by kernel_rfl
  have kb : Tryd.prog.cellsOf 4 = 1 := by kernel_rfl
  obtain ⟨a, b, rfl, rfl, e0, w0, w1⟩ := trod_cell (show DataW.trod enc Tryd.prog W base spare held m 24 [c0, c1] = some y0 by simpa [k, Value.cells] using h0)
  obtain ⟨x, ex, e1⟩ := DataW.trod_bool Tryd.underlying4 h1
  obtain ⟨y, ey, e2⟩ := DataW.trod_bool Tryd.underlying4 h2
  simp [kb, Value.cells] at ex ey
  subst e0 e1 e2 ex ey
  cases hx
  exact ⟨a, b, x, y, rfl, rfl, rfl, w0, w1⟩

theorem shut_ref {a b : Int} (w0 : (Lit.int .i64 a).wf = true) (w1 : (Lit.int .i64 b).wf = true) (x y : Bool) :
    DataW.Trod enc Tryd.prog W base spare held 26 (.agg ⟨[.int .i64 a, .int .i64 b, .bool x, .bool y]⟩) (dRef a b x y) [] := by
  have k : Tryd.prog.cellsOf 24 = 2 := by kernel_rfl
  have kb : Tryd.prog.cellsOf 4 = 1 := by kernel_rfl
  have k4 : Tryd.prog.cellsOf 26 = 4 := by kernel_rfl
  have := Deep.trod_struct3_mk (enc := enc) (w := W) (base := base) (spare := spare) (held := held) (n := 2) (cs := [.int .i64 a, .int .i64 b, .bool x, .bool y]) (y0 := (dCell a b, [])) (y1 := (.lit (.bool x), [])) (y2 := (.lit (.bool y), [])) Tryd.underlying26 (by simp [k4])
    (by simpa [k] using trod_cell_mk w0 w1 0) (by simp [kb, DataW.trod, Tryd.underlying4]) (by simp [kb, DataW.trod, Tryd.underlying4])
  exact ⟨3, by simpa [Value.cells, dRef] using this⟩
end

theorem laid_pow : (Rows.laid_internal_strconv_uint64pow10 : DataW Unit) = Lib.tabData .u64 Lib.pow10Tab := by kernel_rfl

/-- What the rows' condition says of the world is what the contracts ask. -/
theorem inv_of_laid {W : World} (h : laidMetH Tryd.prog Rows.addrCellsRow.laid W) : J0.I W := by
  have h' : laidMet Tryd.prog Rows.addrCellsRow.laid W := h
  obtain ⟨ps, ⟨g1, t1, cs1, f1, p1, q1, hg1, ht1, hvar1, hd1, ⟨g2, t2, cs2, f2, p2, q2, hg2, ht2, hvar2, hd2, ⟨g3, t3, cs3, f3, p3, q3, hg3, ht3, hvar3, hd3, _⟩, _⟩, _⟩, _⟩ := h'
  refine ⟨?_, ?_⟩
  · have e : Tryd.prog.globalNamed "math/bits.deBruijn64tab" = some 5 := by kernel_rfl
    unfold World.var? at hvar2
    rw [e] at hvar2
    simp only [Option.bind_some] at hvar2
    have hlt : 5 < W.heap.size := by
      rcases Nat.lt_or_ge 5 W.heap.size with h1 | h1
      · exact h1
      · rw [Array.getElem?_eq_none h1] at hvar2
        cases hvar2
    have hs : Tryd.prog.globals.size = 5 + 1 := by kernel_rfl
    omega
  · have e : Tryd.prog.globalNamed "internal/strconv.uint64pow10" = some 3 := tab_glob
    obtain rfl := Option.some.inj (e.symm.trans hg3)
    have et : (Tryd.prog.globals[3]?).map (·.type) = some 93 := by kernel_rfl
    obtain rfl := Option.some.inj (et.symm.trans ht3)
    unfold Lib.TabIs
    have hd := hd3
    rw [show (Rows.laid_internal_strconv_uint64pow10 : DataW Unit) = Lib.tabData .u64 Lib.pow10Tab from laid_pow] at hd
    rw [hvar3, ← Lib.cells_of_tab (n := 20) Tryd.underlying93 Tryd.underlying80 (by kernel_rfl) (by kernel_rfl) hd]

/-- What a table's reading lies in as cells. -/
def cellsD : Nat → DataW Unit → List Value
  | 0, _ => []
  | _ + 1, .lit (.int k n) => [.int k n]
  | f + 1, .agg l => l.flatMap (cellsD f)
  | _ + 1, _ => []

def putD (g : Nat) (d : DataW Unit) (h : Array Obj) : Array Obj := h.modify g fun
  | .cells _ t frozen => .cells (cellsD 4 d).toArray t frozen
  | o => o

/-- A world for the witness: the settled one, the tables holding what their initialisers lay. -/
noncomputable def laidWorld (os : Os) : World :=
  { World.holding Tryd.prog os ⟨#[], #[], []⟩ with heap := putD 0 Rows.laid_unicode_utf8_first (putD 1 Rows.laid_unicode_utf8_acceptRanges (putD 3 Rows.laid_internal_strconv_uint64pow10
      (putD 4 Rows.laid_math_bits_deBruijn32tab (putD 5 Rows.laid_math_bits_deBruijn64tab (World.holding Tryd.prog os ⟨#[], #[], []⟩).heap)))) }

theorem Pure.calls {P : Program} {J : Ev.Inv P} {f : FuncId} {args : List Value} {v : Value} (h : Ev.Pure P J f args v) (he : Enters P f) (w : World) (hI : J.I w) : Calls P f ⟨args⟩ w fun e w' => e = .returned v ∧ Below w.heap.size w w' := by
  obtain ⟨_, _, ⟨_, hc⟩ | hx⟩ := h
  · exact hc w hI
  · have := hx w hI
    rw [he _ _] at this
    cases this

end Go.Proofs.YthclpocignpfhaaDoor
