/-
  Several texts in one (merge.py): VaU, VaI.
-/
import Derived.Test.YtaopinmjgjpiiaaGreatDoorNuA
import Derived.Shelf.Unicode.ValidAny
import Derived.Test.YtaopinmjgjpiiaaGreatDoorCards
import Derived.Test.YtaopinmjgjpiiaaGreatDoorTie
import Derived.WalkKit
import Derived.ProofKit
import Derived.OpenShut
import Derived.Carry
import Derived.Deep.DeepHandedRow
import Derived.Lib.LaidTab
import Derived.Lib.SmallJoins
import Derived.Deep.Strs
import Derived.Laws.Cover2
import Derived.Lib.LaidU8T
import Derived.Shelf.Vars

/-
  The library contract of utf8.ValidString, laid at this program: what is asked of the program, by the kernel. (Numbers of seat r3.)
-/
namespace Go.Proofs

def Tryz.lays196_ren : Go.Shelf.Ren := ⟨fun | 196 => 117 | 259 => 184 | n => n, fun | 9 => 9 | 4 => 4 | 3 => 3 | 5 => 5 | 12 => 12 | 119 => 246 | 0 => 0 | 46 => 122 | 139 => 249 | 138 => 248 | 53 => 29 | n => n, fun | 3 => 1 | 4 => 2 | n => n⟩
theorem Tryz.lays196 : Go.Proofs.Lays.n196 Tryz.prog Tryz.lays196_ren where
  mixed := by kernel_rfl
  f196 := Tryz.func117.trans (congrArg some (by kernel_rfl))
  f259 := Tryz.func184.trans (congrArg some (by kernel_rfl))
  t0 := Tryz.underlying0
  a0 := Tryz.isAgg0
  z0 := Tryz.sizeOf0
  v0 := Tryz.zeroValue0
  t3 := Tryz.underlying3
  a3 := Tryz.isAgg3
  z3 := Tryz.sizeOf3
  v3 := Tryz.zeroValue3
  t4 := Tryz.underlying4
  a4 := Tryz.isAgg4
  z4 := Tryz.sizeOf4
  v4 := Tryz.zeroValue4
  t5 := Tryz.underlying5
  a5 := Tryz.isAgg5
  z5 := Tryz.sizeOf5
  v5 := Tryz.zeroValue5
  t9 := Tryz.underlying9
  a9 := Tryz.isAgg9
  z9 := Tryz.sizeOf9
  v9 := Tryz.zeroValue9
  t12 := Tryz.underlying12
  a12 := Tryz.isAgg12
  z12 := Tryz.sizeOf12
  v12 := Tryz.zeroValue12
  t46 := Tryz.underlying122
  a46 := Tryz.isAgg122
  z46 := Tryz.sizeOf122
  v46 := Tryz.zeroValue122
  t53 := Tryz.underlying29
  a53 := Tryz.isAgg29
  z53 := Tryz.sizeOf29
  v53 := Tryz.zeroValue29
  t119 := Tryz.underlying246
  a119 := Tryz.isAgg246
  z119 := Tryz.sizeOf246
  t138 := Tryz.underlying248
  a138 := Tryz.isAgg248
  z138 := Tryz.sizeOf248
  v138 := Tryz.zeroValue248
  t139 := Tryz.underlying249
  a139 := Tryz.isAgg249
  z139 := Tryz.sizeOf249
  v139 := Tryz.zeroValue249
  g3 := by kernel_rfl
  g4 := by kernel_rfl

namespace YtaopinmjgjpiiaaGreatDoor
open Go Go.RowKit Ev

theorem validString_pure (s : List UInt8) (hs : s.length ≤ 9223372036854775807) : Pure Tryz.prog J0 117 [.string ⟨⟨s⟩⟩] (.bool (Lib.validD s)) := by
  refine ⟨rfl, rfl, .inl ⟨enters_of Tryz.func117 (by kernel_rfl) (c := _) rfl, fun w hI => ?_⟩⟩
  exact Any.utf8_ValidString Tryz.lays196 ⟨⟨s⟩⟩ w hs hI.2.2.2.2.1

end YtaopinmjgjpiiaaGreatDoor
end Go.Proofs

/-
  From a contract to a law's card: values as arguments, opened and shut; what the rows' condition says of the world.
-/
namespace Go.Proofs.YtaopinmjgjpiiaaGreatDoor
open Go.ChangeShapes Go.WideShapes Go.ChangeAt Go.RowKit Go.Joins

theorem own : ownKnob Tryz.prog.godebug = none := by kernel_rfl

/-- 'post_of_same' where the call has laid blocks of its own. -/
theorem post_of_below {H : Type} {enc : TypeId × Value → H} {P : Program} {f : Func} {s : ChangeSpec} {apart fresh handsOn again : Bool} {W W' : World} {args : Array Value} {v : Value} {ds gs : List (DataW H)}
    (hW : DataW.Whole enc P f.params.toList s.vars apart W args.toList ds gs [])
    (hres : ∀ (b : Nat) (sp : Nat → Bool) (hd : Bool), DataW.TrodAll enc P W' b sp hd f.resultTypes.toList (v.resultList f.resultTypes.size) (s.fn H (ds ++ gs)).results [])
    (hargs : ∀ sp : Nat → Bool, DataW.TrodAll enc P W' 0 sp true f.params.toList args.toList (s.fn H (ds ++ gs)).args [])
    (hvars : ∀ sp : Nat → Bool, DataW.TrodVars enc P W' sp s.vars (s.fn H (ds ++ gs)).vars [])
    (hk : Below W.heap.size W W')
    (hok : ∀ (j : Nat) (t : TypeId) (r : Value), f.resultTypes[j]? = some t → (v.resultList f.resultTypes.size)[j]? = some r → Value.okWide P W' .any 0 t r) :
    s.post enc P f apart fresh handsOn again W args v W' := by
  refine ⟨ds, gs, [], [], [], [], hW, hres _ _ _, hargs _, hvars _, World.keptBut_mono (fun p hp => ⟨hp, ?_⟩) (hk.frame (· ∈ [])), fun _ => ?_⟩
  · cases hp
  · refine ⟨hok, _, _, ([] ++ []) ++ [], ⟨[] ++ [], [], trodAll_append (hargs _) (hres _ _ _), hvars _, rfl, ?_, ?_⟩, ?_⟩
    · intro b off hp
      simp at hp
    · intro ha
      simp
    · intro p hp _
      simp at hp

theorem Pure.calls {P : Program} {J : Ev.Inv P} {f : FuncId} {args : List Value} {v : Value} (h : Ev.Pure P J f args v) (he : Enters P f) (w : World) (hI : J.I w) : Calls P f ⟨args⟩ w fun e w' => e = .returned v ∧ Below w.heap.size w w' := by
  obtain ⟨_, _, ⟨_, hc⟩ | hx⟩ := h
  · exact hc w hI
  · have := hx w hI
    rw [he _ _] at this
    cases this

/-! The tables. -/

theorem varIs_of {W : World} {n : String} {g : Nat} {cs : Array Value} {k : IntKind} {zs : List Int} (e : Tryz.prog.globalNamed n = some g) (hv : W.var? Tryz.prog n = some cs) (hc : cs.toList = zs.map fun z => Value.int k z) : VarIs W g k zs := by
  unfold World.var? at hv
  rw [e] at hv
  simp only [Option.bind_some] at hv
  split at hv
  · rename_i c t fr hb
    cases hv
    refine ⟨t, fr, ?_⟩
    rw [hb, ← hc]
  · cases hv

theorem VarIs.lt {W : World} {g : Nat} {k : IntKind} {zs : List Int} (h : VarIs W g k zs) : g < W.heap.size := by
  obtain ⟨t, fr, h⟩ := h
  exact (Array.getElem?_eq_some_iff.1 h).1

theorem laid_pow : (Rows.laid_internal_strconv_uint64pow10 : DataW Unit) = Lib.tabData .u64 Lib.pow10Tab := by kernel_rfl
theorem laid_d32 : (Rows.laid_math_bits_deBruijn32tab : DataW Unit) = Lib.tabData .u8 dB32 := by kernel_rfl
theorem laid_d64 : (Rows.laid_math_bits_deBruijn64tab : DataW Unit) = Lib.tabData .u8 dB64 := by kernel_rfl

theorem first_data : (Rows.laid_unicode_utf8_first : DataW Unit) = Lib.firstData := by kernel_rfl
theorem accept_data : (Rows.laid_unicode_utf8_acceptRanges : DataW Unit) = Lib.acceptData := by kernel_rfl
theorem u8extra : U8Extra Tryz.prog Tryz.lays196_ren := ⟨by kernel_rfl, by kernel_rfl, by kernel_rfl, by kernel_rfl, by kernel_rfl, by kernel_rfl, by kernel_rfl⟩

/-- What the rows' condition says of the world is what the contracts ask. -/
theorem maxLen_some {w : World} (h : w.ShapedOpen Tryz.prog) : SomeInt w 4 :=
  Go.Proofs.cell_of_shapedOpen_int (zero := #[.int .i64 0]) (t := 3) h (of_decide_eq_true (by kernel_rfl)) (by kernel_rfl) rfl (by kernel_rfl) (by kernel_rfl) Tryz.underlying3

/-- A variable that is listed as an interface's value holds one. -/
theorem ifaceVar_of {w : World} {n name : String} {g : Nat} {t : TypeId} {d : DataW Unit} {ms : _} (hr : Lib.VarReads Tryz.prog w n (.iface name d)) (hg : Tryz.prog.globalNamed n = some g) (hty : (Tryz.prog.globals[g]?).map (·.type) = some t)
    (hu : Tryz.prog.underlying t = some (.interface ms)) : IfaceVar w g := by
  obtain ⟨g', t', cs, fuel, p, h1, h2, h3, h4⟩ := hr
  obtain rfl := Option.some.inj (hg.symm.trans h1)
  obtain rfl := Option.some.inj (hty.symm.trans h2)
  cases fuel with
  | zero => simp [DataW.trod] at h4
  | succ n =>
    unfold DataW.trod at h4
    rw [hu] at h4
    have hc := World.var?_cell hg h3 0
    obtain ⟨l⟩ := cs
    simp only at h4
    split at h4 <;> first | (simp_all; done) | skip
    all_goals first
      | (rename_i u v _ _; exact ⟨.iface u v, by rw [hc]; simp_all, .inr ⟨u, v, rfl⟩⟩)
      | (rename_i u v _; exact ⟨.iface u v, by rw [hc]; simp_all, .inr ⟨u, v, rfl⟩⟩)
      | (rename_i u v; exact ⟨.iface u v, by rw [hc]; simp_all, .inr ⟨u, v, rfl⟩⟩)
      | cases h4

theorem inv_of_laid {W : World} (h : laidMetH Tryz.prog Rows.numberBeginsRow.laid W) (hsh : W.ShapedOpen Tryz.prog) : J0.I W := by
  have h' : laidMet Tryz.prog Rows.numberBeginsRow.laid W := h
  obtain ⟨ps, ⟨g1, t1, cs1, f1, p1, q1, hg1, ht1, hvar1, hd1, ⟨g2, t2, cs2, f2, p2, q2, hg2, ht2, hvar2, hd2, ⟨g3, t3, cs3, f3, p3, q3, hg3, ht3, hvar3, hd3, _⟩, _⟩, _⟩, _⟩ := h'
  have e1 : Tryz.prog.globalNamed "math/bits.deBruijn32tab" = some 7 := by kernel_rfl
  have e2 : Tryz.prog.globalNamed "math/bits.deBruijn64tab" = some 8 := by kernel_rfl
  have e3 : Tryz.prog.globalNamed "internal/strconv.uint64pow10" = some 3 := by kernel_rfl
  obtain rfl := Option.some.inj (e1.symm.trans hg1)
  obtain rfl := Option.some.inj (e2.symm.trans hg2)
  obtain rfl := Option.some.inj (e3.symm.trans hg3)
  have et1 : (Tryz.prog.globals[7]?).map (·.type) = some 312 := by kernel_rfl
  have et2 : (Tryz.prog.globals[8]?).map (·.type) = some 313 := by kernel_rfl
  have et3 : (Tryz.prog.globals[3]?).map (·.type) = some 293 := by kernel_rfl
  obtain rfl := Option.some.inj (et1.symm.trans ht1)
  obtain rfl := Option.some.inj (et2.symm.trans ht2)
  obtain rfl := Option.some.inj (et3.symm.trans ht3)
  rw [show (Rows.laid_math_bits_deBruijn32tab : DataW Unit) = Lib.tabData .u8 dB32 from laid_d32] at hd1
  rw [show (Rows.laid_math_bits_deBruijn64tab : DataW Unit) = Lib.tabData .u8 dB64 from laid_d64] at hd2
  rw [show (Rows.laid_internal_strconv_uint64pow10 : DataW Unit) = Lib.tabData .u64 Lib.pow10Tab from laid_pow] at hd3
  have c1 := Lib.cells_of_tab (n := 32) Tryz.underlying312 Tryz.underlying5 (by kernel_rfl) (by kernel_rfl) hd1
  have c2 := Lib.cells_of_tab (n := 64) Tryz.underlying313 Tryz.underlying5 (by kernel_rfl) (by kernel_rfl) hd2
  have c3 := Lib.cells_of_tab (n := 20) Tryz.underlying293 Tryz.underlying29 (by kernel_rfl) (by kernel_rfl) hd3
  have v1 := varIs_of e1 hvar1 c1
  have v2 := varIs_of e2 hvar2 c2
  have v3 := varIs_of e3 hvar3 c3
  have w1 := ifaceVar_of (g := 9) (t := 199) (Lib.laidMet.reads h (n := "strconv.ErrSyntax") (d := Rows.laid_strconv_ErrSyntax) (by simp [Rows.numberBeginsRow])) (by kernel_rfl) (by kernel_rfl) Tryz.underlying199
  have w2 := ifaceVar_of (g := 10) (t := 199) (Lib.laidMet.reads h (n := "strconv.ErrRange") (d := Rows.laid_strconv_ErrRange) (by simp [Rows.numberBeginsRow])) (by kernel_rfl) (by kernel_rfl) Tryz.underlying199
  refine ⟨?_, v3, v1, v2, ?_, maxLen_some hsh, w1, w2⟩
  case refine_2 => exact utf8Tabs_of_readsT (.of196 Tryz.lays196) u8extra (Lib.laidMet.reads h (n := "unicode/utf8.first") (by rw [← first_data]; simp [Rows.numberBeginsRow])) (Lib.laidMet.reads h (n := "unicode/utf8.acceptRanges") (by rw [← accept_data]; simp [Rows.numberBeginsRow]))
  have hpos : Tryz.prog.globals.size - 1 < Tryz.prog.globals.size := of_decide_eq_true (by kernel_rfl)
  have hr : (((begin Tryz.prog (fun _ _ => 0) default).world.heap[Tryz.prog.globals.size - 1]?).bind Obj.row?).isSome = true := by kernel_rfl
  obtain ⟨⟨zero, t⟩, h0⟩ := Option.isSome_iff_exists.1 hr
  obtain ⟨cs, hh, _⟩ := hsh.1 _ zero t hpos h0
  have := (Array.getElem?_eq_some_iff.1 hh).1
  omega

theorem weights_skip {H : Type} {P : Program} {t : TypeId} {ts : List TypeId} {d : DataW H} {r : List (DataW H)} (h : (DataW.weightsEach P (t :: ts) (d :: r)).all (· ≤ reachBytes) = true) : (DataW.weightsEach P ts r).all (· ≤ reachBytes) = true := by
  rw [DataW.weightsEach, List.all_append, Bool.and_eq_true] at h
  exact h.2
theorem weights_str {H : Type} {P : Program} {t : TypeId} {ts : List TypeId} {s : List UInt8} {r : List (DataW H)} (h : (DataW.weightsEach P (t :: ts) (.lit (.string s) :: r)).all (· ≤ reachBytes) = true) : s.length ≤ 140737488351232 := by
  rw [DataW.weightsEach, DataW.weights, List.all_append, Bool.and_eq_true] at h
  have := h.1
  simp only [List.all_cons, List.all_nil, Bool.and_true, reachBytes] at this
  exact of_decide_eq_true this

/-! A world for the witness: the settled one, the variables holding what their initialisers lay. -/

def cellsD : Nat → DataW Unit → List Value
  | 0, _ => []
  | _ + 1, .lit (.int k n) => [.int k n]
  | f + 1, .agg l => l.flatMap (cellsD f)
  | _ + 1, _ => []

def putL (g : Nat) (cs : List Value) (h : Array Obj) : Array Obj := h.modify g fun
  | .cells _ t frozen => .cells cs.toArray t frozen
  | o => o

def sRange : ByteArray := ⟨#[118, 97, 108, 117, 101, 32, 111, 117, 116, 32, 111, 102, 32, 114, 97, 110, 103, 101]⟩
def sSyntax : ByteArray := ⟨#[105, 110, 118, 97, 108, 105, 100, 32, 115, 121, 110, 116, 97, 120]⟩
noncomputable def low : Nat := (World.holding Tryz.prog default ⟨#[], #[], []⟩).heap.size

noncomputable def laidWorld (os : Os) : World :=
  let w0 := World.holding Tryz.prog os ⟨#[.cells #[.string sRange] 319, .cells #[.string sSyntax] 319], #[], []⟩
  { w0 with heap := putL 10 [.iface 317 (.pointer (some ⟨low, 0, none⟩))] (putL 9 [.iface 317 (.pointer (some ⟨low + 1, 0, none⟩))]
      (putL 1 (cellsD 4 Rows.laid_unicode_utf8_first) (putL 2 (cellsD 4 Rows.laid_unicode_utf8_acceptRanges) (putL 3 (cellsD 4 Rows.laid_internal_strconv_uint64pow10)
      (putL 7 (cellsD 4 Rows.laid_math_bits_deBruijn32tab) (putL 8 (cellsD 4 Rows.laid_math_bits_deBruijn64tab) w0.heap)))))) }

end Go.Proofs.YtaopinmjgjpiiaaGreatDoor
