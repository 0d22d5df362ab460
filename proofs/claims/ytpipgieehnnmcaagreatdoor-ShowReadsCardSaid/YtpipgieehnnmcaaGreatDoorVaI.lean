/-
  Several texts in one (merge.py): VaU, VaI.
-/
import Derived.Test.YtpipgieehnnmcaaGreatDoorNuA
import Derived.Shelf.Unicode.ValidAny
import Derived.Test.YtpipgieehnnmcaaGreatDoorCards
import Derived.Test.YtpipgieehnnmcaaGreatDoorTie
import Derived.WalkKit
import Derived.ProofKit
import Derived.OpenShut
import Derived.Carry
import Derived.Deep.DeepHandedRow
import Derived.Lib.LaidTab
import Derived.Lib.SmallJoins
import Derived.Deep.Strs
import Derived.Laws.Cover2
import Derived.Test.YtpipgieehnnmcaaGreatDoorVaS
import Derived.Lib.LaidU8T
import Derived.Shelf.Vars

/-
  The library contract of utf8.ValidString, laid at this program: what is asked of the program, by the kernel. (Numbers of seat r3.)
-/
namespace Go.Proofs

def Tryz.lays196_ren : Go.Shelf.Ren := ⟨fun | 196 => 235 | 259 => 345 | n => n, fun | 9 => 9 | 4 => 4 | 3 => 3 | 5 => 5 | 12 => 12 | 119 => 369 | 0 => 0 | 46 => 110 | 139 => 372 | 138 => 371 | 53 => 25 | n => n, fun | 3 => 1 | 4 => 2 | n => n⟩
theorem Tryz.lays196 : Go.Proofs.Lays.n196 Tryz.prog Tryz.lays196_ren where
  mixed := by kernel_rfl
  f196 := Tryz.func235.trans (congrArg some (by kernel_rfl))
  f259 := Tryz.func345.trans (congrArg some (by kernel_rfl))
  t0 := Tryz.underlying0
  a0 := Tryz.isAgg0
  z0 := Tryz.sizeOf0
  v0 := Tryz.zeroValue0
  t3 := Tryz.underlying3
  a3 := Tryz.isAgg3
  z3 := Tryz.sizeOf3
  v3 := Tryz.zeroValue3
  t4 := Tryz.underlying4
  a4 := Tryz.isAgg4
  z4 := Tryz.sizeOf4
  v4 := Tryz.zeroValue4
  t5 := Tryz.underlying5
  a5 := Tryz.isAgg5
  z5 := Tryz.sizeOf5
  v5 := Tryz.zeroValue5
  t9 := Tryz.underlying9
  a9 := Tryz.isAgg9
  z9 := Tryz.sizeOf9
  v9 := Tryz.zeroValue9
  t12 := Tryz.underlying12
  a12 := Tryz.isAgg12
  z12 := Tryz.sizeOf12
  v12 := Tryz.zeroValue12
  t46 := Tryz.underlying110
  a46 := Tryz.isAgg110
  z46 := Tryz.sizeOf110
  v46 := Tryz.zeroValue110
  t53 := Tryz.underlying25
  a53 := Tryz.isAgg25
  z53 := Tryz.sizeOf25
  v53 := Tryz.zeroValue25
  t119 := Tryz.underlying369
  a119 := Tryz.isAgg369
  z119 := Tryz.sizeOf369
  t138 := Tryz.underlying371
  a138 := Tryz.isAgg371
  z138 := Tryz.sizeOf371
  v138 := Tryz.zeroValue371
  t139 := Tryz.underlying372
  a139 := Tryz.isAgg372
  z139 := Tryz.sizeOf372
  v139 := Tryz.zeroValue372
  g3 := by kernel_rfl
  g4 := by kernel_rfl

namespace YtpipgieehnnmcaaGreatDoor
open Go Go.RowKit Ev

theorem validString_pure (s : List UInt8) (hs : s.length ≤ 9223372036854775807) : Pure Tryz.prog J0 235 [.string ⟨⟨s⟩⟩] (.bool (Lib.validD s)) := by
  refine ⟨rfl, rfl, .inl ⟨enters_of Tryz.func235 (by kernel_rfl) (c := _) rfl, fun w hI => ?_⟩⟩
  exact Any.utf8_ValidString Tryz.lays196 ⟨⟨s⟩⟩ w hs hI.2.2.2.2.1

end YtpipgieehnnmcaaGreatDoor
end Go.Proofs

/-
  From a contract to a law's card: values as arguments, opened and shut; what the rows' condition says of the world.
-/
namespace Go.Proofs.YtpipgieehnnmcaaGreatDoor
open Go.ChangeShapes Go.WideShapes Go.ChangeAt Go.RowKit Go.Joins

theorem own : ownKnob Tryz.prog.godebug = none := by kernel_rfl

/-- 'post_of_same' where the call has laid blocks of its own. -/
theorem post_of_below {H : Type} {enc : TypeId × Value → H} {P : Program} {f : Func} {s : ChangeSpec} {apart fresh handsOn again : Bool} {W W' : World} {args : Array Value} {v : Value} {ds gs : List (DataW H)}
    (hW : DataW.Whole enc P f.params.toList s.vars apart W args.toList ds gs [])
    (hres : ∀ (b : Nat) (sp : Nat → Bool) (hd : Bool), DataW.TrodAll enc P W' b sp hd f.resultTypes.toList (v.resultList f.resultTypes.size) (s.fn H (ds ++ gs)).results [])
    (hargs : ∀ sp : Nat → Bool, DataW.TrodAll enc P W' 0 sp true f.params.toList args.toList (s.fn H (ds ++ gs)).args [])
    (hvars : ∀ sp : Nat → Bool, DataW.TrodVars enc P W' sp s.vars (s.fn H (ds ++ gs)).vars [])
    (hk : Below W.heap.size W W')
    (hok : ∀ (j : Nat) (t : TypeId) (r : Value), f.resultTypes[j]? = some t → (v.resultList f.resultTypes.size)[j]? = some r → Value.okWide P W' .any 0 t r) :
    s.post enc P f apart fresh handsOn again W args v W' := by
  refine ⟨ds, gs, [], [], [], [], hW, hres _ _ _, hargs _, hvars _, World.keptBut_mono (fun p hp => ⟨hp, ?_⟩) (hk.frame (· ∈ [])), fun _ => ?_⟩
  · cases hp
  · refine ⟨hok, _, _, ([] ++ []) ++ [], ⟨[] ++ [], [], trodAll_append (hargs _) (hres _ _ _), hvars _, rfl, ?_, ?_⟩, ?_⟩
    · intro b off hp
      simp at hp
    · intro ha
      simp
    · intro p hp _
      simp at hp

section
variable {H : Type} {enc : TypeId × Value → H} {w : World} {W : World} {base : Nat} {spare : Nat → Bool} {held : Bool}

theorem trod_struct5 {P : Program} {t : TypeId} {f0 f1 f2 f3 f4 : Field} {fuel : Nat} {cs : List Value} {x : DataW H × List MemPlace} (ht : P.underlying t = some (.struct #[f0, f1, f2, f3, f4])) (h : DataW.trod enc P w base spare held fuel t cs = some x) :
    ∃ y0 y1 y2 y3 y4 n, x = (.agg [y0.1, y1.1, y2.1, y3.1, y4.1], y0.2 ++ (y1.2 ++ (y2.2 ++ (y3.2 ++ y4.2)))) ∧ cs.length = P.cellsOf t ∧ DataW.trod enc P w base spare held n f0.type ((cs.drop f0.offset).take (P.cellsOf f0.type)) = some y0 ∧
      DataW.trod enc P w base spare held n f1.type ((cs.drop f1.offset).take (P.cellsOf f1.type)) = some y1 ∧ DataW.trod enc P w base spare held n f2.type ((cs.drop f2.offset).take (P.cellsOf f2.type)) = some y2 ∧
      DataW.trod enc P w base spare held n f3.type ((cs.drop f3.offset).take (P.cellsOf f3.type)) = some y3 ∧ DataW.trod enc P w base spare held n f4.type ((cs.drop f4.offset).take (P.cellsOf f4.type)) = some y4 := by
  obtain ⟨xs, n, _, rfl, hl, hlen, hf⟩ := DataW.trod_struct ht h
  match xs, hlen with
  | [y0, y1, y2, y3, y4], _ => exact ⟨y0, y1, y2, y3, y4, n, by simp, hl, by simpa using hf 0 f0 rfl, by simpa using hf 1 f1 rfl, by simpa using hf 2 f2 rfl, by simpa using hf 3 f3 rfl, by simpa using hf 4 f4 rfl⟩
theorem trod_struct5_mk {P : Program} {t : TypeId} {f0 f1 f2 f3 f4 : Field} {n : Nat} {cs : List Value} {y0 y1 y2 y3 y4 : DataW H × List MemPlace} (ht : P.underlying t = some (.struct #[f0, f1, f2, f3, f4])) (hl : cs.length = P.cellsOf t)
    (h0 : DataW.trod enc P w base spare held n f0.type ((cs.drop f0.offset).take (P.cellsOf f0.type)) = some y0) (h1 : DataW.trod enc P w base spare held n f1.type ((cs.drop f1.offset).take (P.cellsOf f1.type)) = some y1)
    (h2 : DataW.trod enc P w base spare held n f2.type ((cs.drop f2.offset).take (P.cellsOf f2.type)) = some y2) (h3 : DataW.trod enc P w base spare held n f3.type ((cs.drop f3.offset).take (P.cellsOf f3.type)) = some y3)
    (h4 : DataW.trod enc P w base spare held n f4.type ((cs.drop f4.offset).take (P.cellsOf f4.type)) = some y4) :
    DataW.trod enc P w base spare held (n + 1) t cs = some (.agg [y0.1, y1.1, y2.1, y3.1, y4.1], y0.2 ++ (y1.2 ++ (y2.2 ++ (y3.2 ++ y4.2)))) := by
  have := trod_struct_mk (enc := enc) (w := w) (base := base) (spare := spare) (held := held) (n := n) (xs := [y0, y1, y2, y3, y4]) ht hl (by simp [h0, h1, h2, h3, h4])
  simpa using this

theorem array5 {α : Type} {cs : Array α} (h : cs.size = 5) : ∃ c0 c1 c2 c3 c4, cs = #[c0, c1, c2, c3, c4] := by
  obtain ⟨l⟩ := cs
  match l, h with
  | [c0, c1, c2, c3, c4], _ => exact ⟨c0, c1, c2, c3, c4, rfl⟩

theorem trod_f64 {P : Program} {t : TypeId} (ht : P.underlying t = some (.float .f64)) {fuel : Nat} {cs : List Value} {x : DataW H × List MemPlace} (h : DataW.trod enc P w base spare held fuel t cs = some x) : ∃ b, cs = [.float .f64 b] ∧ x = (.lit (.float .f64 b), []) ∧ (Lit.float .f64 b).wf = true := by
  cases fuel with
  | zero => simp [DataW.trod] at h
  | succ n =>
    unfold DataW.trod at h
    rw [ht] at h
    split at h <;> simp_all

def dVal (v : VaS.Val) : DataW H := .agg [.lit (.int .i64 v.k), .lit (.float .f64 v.x), .lit (.string v.s), .lit (.bool v.b), .lit (.int .i64 v.f)]

/-- What a value that comes in meets. -/
structure Wfv (v : VaS.Val) : Prop where
  k : (Lit.int .i64 v.k).wf = true
  x : (Lit.float .f64 v.x).wf = true
  s : v.s.length ≤ maxLen
  f : (Lit.int .i64 v.f).wf = true

set_option maxRecDepth 100000 in
theorem open_val {r : Reach} {b0 : Nat} {v : Value} {d : DataW H} {p : List MemPlace} (hv : Value.okWide Tryz.prog W r b0 76 v) (h : DataW.Trod enc Tryz.prog W base spare held 76 v d p) :
    ∃ u : VaS.Val, v = VaS.vv u ∧ d = dVal u ∧ p = [] ∧ Wfv u := by
  obtain ⟨cs, rfl, hsz⟩ := okWide_struct Tryz.underlying76 hv
  obtain ⟨c0, c1, c2, c3, c4, rfl⟩ := array5 (hsz.trans (show Tryz.prog.cellsOf 76 = 5 by kernel_rfl))
  obtain ⟨n, h⟩ := h
  obtain ⟨y0, y1, y2, y3, y4, m, hx, _, h0, h1, h2, h3, h4⟩ := trod_struct5 Tryz.underlying76 h
  have ki : Tryz.prog.cellsOf 3 = 1 := by kernel_rfl
  have kf : Tryz.prog.cellsOf 26 = 1 := by kernel_rfl
  have ks : Tryz.prog.cellsOf 9 = 1 := by kernel_rfl
  have kb : Tryz.prog.cellsOf 4 = 1 := by kernel_rfl
  obtain ⟨k, e0, x0, w0⟩ := DataW.trod_int Tryz.underlying3 h0
  obtain ⟨x, e1, x1, w1⟩ := trod_f64 Tryz.underlying26 h1
  obtain ⟨s, e2, x2, w2⟩ := DataW.trod_string Tryz.underlying9 h2
  obtain ⟨b, e3, x3⟩ := DataW.trod_bool Tryz.underlying4 h3
  obtain ⟨f, e4, x4, w4⟩ := DataW.trod_int Tryz.underlying3 h4
  simp [ki, kf, ks, kb, Value.cells] at e0 e1 e2 e3 e4
  subst x0 x1 x2 x3 x4 e0 e1 e2 e3 e4
  cases hx
  obtain ⟨⟨s⟩⟩ := s
  exact ⟨⟨k, x, s, b, f⟩, rfl, rfl, rfl, w0, w1, w2, w4⟩

set_option maxRecDepth 100000 in
theorem shut_val {v : VaS.Val} (h : Wfv v) : DataW.Trod enc Tryz.prog W base spare held 76 (VaS.vv v) (dVal v) [] := by
  have ki : Tryz.prog.cellsOf 3 = 1 := by kernel_rfl
  have kf : Tryz.prog.cellsOf 26 = 1 := by kernel_rfl
  have ks : Tryz.prog.cellsOf 9 = 1 := by kernel_rfl
  have kb : Tryz.prog.cellsOf 4 = 1 := by kernel_rfl
  have kv : Tryz.prog.cellsOf 76 = 5 := by kernel_rfl
  have := trod_struct5_mk (P := Tryz.prog) (enc := enc) (w := W) (base := base) (spare := spare) (held := held) (n := 1) (cs := [.int .i64 v.k, .float .f64 v.x, .string ⟨⟨v.s⟩⟩, .bool v.b, .int .i64 v.f])
    (y0 := (.lit (.int .i64 v.k), [])) (y1 := (.lit (.float .f64 v.x), [])) (y2 := (.lit (.string v.s), [])) (y3 := (.lit (.bool v.b), [])) (y4 := (.lit (.int .i64 v.f), [])) Tryz.underlying76 (by simp [kv])
    (by simpa [ki] using trod_int_mk 0 Tryz.underlying3 h.k) (by simp [kf, DataW.trod, Tryz.underlying26, h.x]) (by
      have hs : (⟨⟨v.s⟩⟩ : ByteArray).size ≤ maxLen := h.s
      simp [ks, DataW.trod, Tryz.underlying9, hs]) (by simp [kb, DataW.trod, Tryz.underlying4]) (by simpa [ki] using trod_int_mk 0 Tryz.underlying3 h.f)
  exact ⟨2, by simpa [Value.cells, VaS.vv, dVal] using this⟩
end

theorem Pure.calls {P : Program} {J : Ev.Inv P} {f : FuncId} {args : List Value} {v : Value} (h : Ev.Pure P J f args v) (he : Enters P f) (w : World) (hI : J.I w) : Calls P f ⟨args⟩ w fun e w' => e = .returned v ∧ Below w.heap.size w w' := by
  obtain ⟨_, _, ⟨_, hc⟩ | hx⟩ := h
  · exact hc w hI
  · have := hx w hI
    rw [he _ _] at this
    cases this

/-! The tables. -/

theorem varIs_of {W : World} {n : String} {g : Nat} {cs : Array Value} {k : IntKind} {zs : List Int} (e : Tryz.prog.globalNamed n = some g) (hv : W.var? Tryz.prog n = some cs) (hc : cs.toList = zs.map fun z => Value.int k z) : VarIs W g k zs := by
  unfold World.var? at hv
  rw [e] at hv
  simp only [Option.bind_some] at hv
  split at hv
  · rename_i c t fr hb
    cases hv
    refine ⟨t, fr, ?_⟩
    rw [hb, ← hc]
  · cases hv

theorem VarIs.lt {W : World} {g : Nat} {k : IntKind} {zs : List Int} (h : VarIs W g k zs) : g < W.heap.size := by
  obtain ⟨t, fr, h⟩ := h
  exact (Array.getElem?_eq_some_iff.1 h).1

theorem laid_pow : (Rows.laid_internal_strconv_uint64pow10 : DataW Unit) = Lib.tabData .u64 Lib.pow10Tab := by kernel_rfl
theorem laid_d32 : (Rows.laid_math_bits_deBruijn32tab : DataW Unit) = Lib.tabData .u8 dB32 := by kernel_rfl
theorem laid_d64 : (Rows.laid_math_bits_deBruijn64tab : DataW Unit) = Lib.tabData .u8 dB64 := by kernel_rfl

theorem first_data : (Rows.laid_unicode_utf8_first : DataW Unit) = Lib.firstData := by kernel_rfl
theorem accept_data : (Rows.laid_unicode_utf8_acceptRanges : DataW Unit) = Lib.acceptData := by kernel_rfl
theorem u8extra : U8Extra Tryz.prog Tryz.lays196_ren := ⟨by kernel_rfl, by kernel_rfl, by kernel_rfl, by kernel_rfl, by kernel_rfl, by kernel_rfl, by kernel_rfl⟩

/-- What the rows' condition says of the world is what the contracts ask. -/
theorem maxLen_some {w : World} (h : w.ShapedOpen Tryz.prog) : SomeInt w 4 :=
  Go.Proofs.cell_of_shapedOpen_int (zero := #[.int .i64 0]) (t := 3) h (of_decide_eq_true (by kernel_rfl)) (by kernel_rfl) rfl (by kernel_rfl) (by kernel_rfl) Tryz.underlying3

/-- A variable that is listed as an interface's value holds one. -/
theorem ifaceVar_of {w : World} {n name : String} {g : Nat} {t : TypeId} {d : DataW Unit} {ms : _} (hr : Lib.VarReads Tryz.prog w n (.iface name d)) (hg : Tryz.prog.globalNamed n = some g) (hty : (Tryz.prog.globals[g]?).map (·.type) = some t)
    (hu : Tryz.prog.underlying t = some (.interface ms)) : IfaceVar w g := by
  obtain ⟨g', t', cs, fuel, p, h1, h2, h3, h4⟩ := hr
  obtain rfl := Option.some.inj (hg.symm.trans h1)
  obtain rfl := Option.some.inj (hty.symm.trans h2)
  cases fuel with
  | zero => simp [DataW.trod] at h4
  | succ n =>
    unfold DataW.trod at h4
    rw [hu] at h4
    have hc := World.var?_cell hg h3 0
    obtain ⟨l⟩ := cs
    simp only at h4
    split at h4 <;> first | (simp_all; done) | skip
    all_goals first
      | (rename_i u v _ _; exact ⟨.iface u v, by rw [hc]; simp_all, .inr ⟨u, v, rfl⟩⟩)
      | (rename_i u v _; exact ⟨.iface u v, by rw [hc]; simp_all, .inr ⟨u, v, rfl⟩⟩)
      | (rename_i u v; exact ⟨.iface u v, by rw [hc]; simp_all, .inr ⟨u, v, rfl⟩⟩)
      | cases h4

theorem inv_of_laid {W : World} (h : laidMetH Tryz.prog Rows.showReadsRow.laid W) (hsh : W.ShapedOpen Tryz.prog) : J0.I W := by
  have h' : laidMet Tryz.prog Rows.showReadsRow.laid W := h
  obtain ⟨ps, ⟨g1, t1, cs1, f1, p1, q1, hg1, ht1, hvar1, hd1, ⟨g2, t2, cs2, f2, p2, q2, hg2, ht2, hvar2, hd2, ⟨g3, t3, cs3, f3, p3, q3, hg3, ht3, hvar3, hd3, _⟩, _⟩, _⟩, _⟩ := h'
  have e1 : Tryz.prog.globalNamed "math/bits.deBruijn32tab" = some 9 := by kernel_rfl
  have e2 : Tryz.prog.globalNamed "math/bits.deBruijn64tab" = some 10 := by kernel_rfl
  have e3 : Tryz.prog.globalNamed "internal/strconv.uint64pow10" = some 3 := by kernel_rfl
  obtain rfl := Option.some.inj (e1.symm.trans hg1)
  obtain rfl := Option.some.inj (e2.symm.trans hg2)
  obtain rfl := Option.some.inj (e3.symm.trans hg3)
  have et1 : (Tryz.prog.globals[9]?).map (·.type) = some 421 := by kernel_rfl
  have et2 : (Tryz.prog.globals[10]?).map (·.type) = some 422 := by kernel_rfl
  have et3 : (Tryz.prog.globals[3]?).map (·.type) = some 386 := by kernel_rfl
  obtain rfl := Option.some.inj (et1.symm.trans ht1)
  obtain rfl := Option.some.inj (et2.symm.trans ht2)
  obtain rfl := Option.some.inj (et3.symm.trans ht3)
  rw [show (Rows.laid_math_bits_deBruijn32tab : DataW Unit) = Lib.tabData .u8 dB32 from laid_d32] at hd1
  rw [show (Rows.laid_math_bits_deBruijn64tab : DataW Unit) = Lib.tabData .u8 dB64 from laid_d64] at hd2
  rw [show (Rows.laid_internal_strconv_uint64pow10 : DataW Unit) = Lib.tabData .u64 Lib.pow10Tab from laid_pow] at hd3
  have c1 := Lib.cells_of_tab (n := 32) Tryz.underlying421 Tryz.underlying5 (by kernel_rfl) (by kernel_rfl) hd1
  have c2 := Lib.cells_of_tab (n := 64) Tryz.underlying422 Tryz.underlying5 (by kernel_rfl) (by kernel_rfl) hd2
  have c3 := Lib.cells_of_tab (n := 20) Tryz.underlying386 Tryz.underlying25 (by kernel_rfl) (by kernel_rfl) hd3
  have v1 := varIs_of e1 hvar1 c1
  have v2 := varIs_of e2 hvar2 c2
  have v3 := varIs_of e3 hvar3 c3
  have w1 := ifaceVar_of (g := 5) (t := 141) (Lib.laidMet.reads h (n := "strconv.ErrSyntax") (d := Rows.laid_strconv_ErrSyntax) (by simp [Rows.showReadsRow])) (by kernel_rfl) (by kernel_rfl) Tryz.underlying141
  have w2 := ifaceVar_of (g := 6) (t := 141) (Lib.laidMet.reads h (n := "strconv.ErrRange") (d := Rows.laid_strconv_ErrRange) (by simp [Rows.showReadsRow])) (by kernel_rfl) (by kernel_rfl) Tryz.underlying141
  refine ⟨?_, v3, v1, v2, ?_, maxLen_some hsh, w1, w2⟩
  case refine_2 => exact utf8Tabs_of_readsT (.of196 Tryz.lays196) u8extra (Lib.laidMet.reads h (n := "unicode/utf8.first") (by rw [← first_data]; simp [Rows.showReadsRow])) (Lib.laidMet.reads h (n := "unicode/utf8.acceptRanges") (by rw [← accept_data]; simp [Rows.showReadsRow]))
  have hs : Tryz.prog.globals.size = 10 + 1 := by kernel_rfl
  have := v2.lt
  omega

/-! A world for the witness: the settled one, the variables holding what their initialisers lay. -/

def cellsD : Nat → DataW Unit → List Value
  | 0, _ => []
  | _ + 1, .lit (.int k n) => [.int k n]
  | f + 1, .agg l => l.flatMap (cellsD f)
  | _ + 1, _ => []

def putL (g : Nat) (cs : List Value) (h : Array Obj) : Array Obj := h.modify g fun
  | .cells _ t frozen => .cells cs.toArray t frozen
  | o => o

def sRange : ByteArray := ⟨#[118, 97, 108, 117, 101, 32, 111, 117, 116, 32, 111, 102, 32, 114, 97, 110, 103, 101]⟩
def sSyntax : ByteArray := ⟨#[105, 110, 118, 97, 108, 105, 100, 32, 115, 121, 110, 116, 97, 120]⟩
noncomputable def low : Nat := (World.holding Tryz.prog default ⟨#[], #[], []⟩).heap.size

noncomputable def laidWorld (os : Os) : World :=
  let w0 := World.holding Tryz.prog os ⟨#[.cells #[.string sRange] 412, .cells #[.string sSyntax] 412], #[], []⟩
  { w0 with heap := putL 6 [.iface 410 (.pointer (some ⟨low, 0, none⟩))] (putL 5 [.iface 410 (.pointer (some ⟨low + 1, 0, none⟩))]
      (putL 1 (cellsD 4 Rows.laid_unicode_utf8_first) (putL 2 (cellsD 4 Rows.laid_unicode_utf8_acceptRanges) (putL 3 (cellsD 4 Rows.laid_internal_strconv_uint64pow10)
      (putL 9 (cellsD 4 Rows.laid_math_bits_deBruijn32tab) (putL 10 (cellsD 4 Rows.laid_math_bits_deBruijn64tab) w0.heap)))))) }

end Go.Proofs.YtpipgieehnnmcaaGreatDoor
