/-
  Layer 10 (addr): contracts of its functions over the program.
-/
import Derived.Test.YthclpocignpfhaaDoorRows
import Derived.Test.YthclpocignpfhaaDoorEvK
import Derived.Test.YthclpocignpfhaaDoorAdS
import Derived.Laws.Externs
import Derived.Lib.Bytealg
import Derived.KernelRfl
import Derived.Lib.LaidTab
import Derived.Lib.ItoaMem
namespace Go.Proofs.YthclpocignpfhaaDoor
open Go Go.RowKit Ev AdS

theorem tab_glob : Tryd.prog.globalNamed "internal/strconv.uint64pow10" = some 3 := by kernel_rfl
theorem tab_in : 3 < Tryd.prog.globals.size := of_decide_eq_true (by kernel_rfl)

/-- What is known of the world at all times: there is room for the variables, and the table of the powers of ten is as it was laid. -/
def J0 : Inv Tryd.prog := ⟨fun w => Tryd.prog.globals.size ≤ w.heap.size ∧ Lib.TabIs Tryd.prog w "internal/strconv.uint64pow10" .u64 Lib.pow10Tab,
  fun w w' h1 h2 h3 => ⟨Nat.le_trans h3.1 h2, by
    have h := h3.2
    unfold Lib.TabIs World.var? at h ⊢
    rw [tab_glob] at h ⊢
    simp only [Option.bind_some] at h ⊢
    rw [h1 _ tab_in]
    exact h⟩, fun _ h => h.1⟩

theorem progOk : ProgOk Tryd.prog := by
  refine ⟨by kernel_rfl, fun f fn h => ?_⟩
  have hall : (Tryd.prog.funcs.toList.all fun fn => !(fn.name == "runtime.NumGoroutine")) = true := by kernel_rfl
  have := List.all_eq_true.1 hall fn (by
    have := Array.mem_of_getElem? h
    simpa using this)
  simpa using this

theorem ext_indexByteString (s : ByteArray) (c : Int) : Pure Tryd.prog J0 72 [.string s, .int .u8 c] (.int .i64 (Lib.indexByte s.data.toList c.toNat.toUInt8)) := by
  refine ⟨rfl, rfl, .inr fun w _ => ?_⟩
  rw [run_callFunc_extern Tryd.func72 (by kernel_rfl) (by kernel_rfl) (by kernel_rfl) (e := Extern.BytealgIndexByte.indexByte) (by kernel_rfl), Lib.run_indexByteString]
  rfl

def specIndexByte : List Value → Option (Value × List Prop)
  | [.string s, .int .u8 c] => some (.int .i64 (Lib.indexByte s.data.toList c.toNat.toUInt8), [])
  | _ => none

theorem specIndexByte_ok (args : List Value) (v : Value) (l : List Prop) (h : specIndexByte args = some (v, l)) (_ : allP l) : Pure Tryd.prog J0 72 args v := by
  unfold specIndexByte at h
  split at h
  · cases h; exact ext_indexByteString _ _
  · cases h

noncomputable def tabA0 : Tab := tabAdd 72 specIndexByte tab0
theorem tabA0_ok : PcOk Tryd.prog J0 tabA0 := tabAdd_ok specIndexByte_ok (tab0_ok _ _)

/-- For closed arguments. -/
noncomputable def bAuto : Base := ⟨Tryd.prog, J0, true, tabA0, mtab0, 200⟩
theorem bAuto_ok : BaseOk bAuto := ⟨progOk, tabA0_ok, mtab0_ok _ _⟩

set_option maxRecDepth 100000 in
theorem awake_pure : Pure Tryd.prog J0 8 [] (.bool true) :=
  pure_of bAuto_ok 20 [] [] (l := []) (by kernel_rfl) trivial

noncomputable def bA0 : Base := ⟨Tryd.prog, J0, false, tabA0, mtab0, 200⟩
theorem bA0_ok : BaseOk bA0 := ⟨progOk, tabA0_ok, mtab0_ok _ _⟩

abbrev vi (n : Int) : Value := .int .i64 n
abbrev vCell (c r : Int) : Value := .agg ⟨[vi c, vi r]⟩
abbrev vArea (c r d s : Int) : Value := .agg ⟨[vi c, vi r, vi d, vi s]⟩
abbrev vRef (c r : Int) (p q : Bool) : Value := .agg ⟨[vi c, vi r, .bool p, .bool q]⟩

theorem valid_pure (c r : Int) : Pure Tryd.prog J0 30 [vCell c r] (.bool (validB c r)) :=
  pure_of bA0_ok 3 [] [] (l := []) (by kernel_rfl) trivial

def specValid : List Value → Option (Value × List Prop)
  | [.agg ⟨[.int .i64 c, .int .i64 r]⟩] => some (.bool (validB c r), [])
  | _ => none
theorem specValid_ok (args : List Value) (v : Value) (l : List Prop) (h : specValid args = some (v, l)) (_ : allP l) : Pure Tryd.prog J0 30 args v := by
  unfold specValid at h
  split at h
  · cases h; exact valid_pure _ _
  · cases h

theorem compare_pure (x y : Int) : Pure Tryd.prog J0 44 [vi x, vi y] (vi (cmpI x y)) := by
  unfold cmpI
  by_cases h1 : x < y
  · rw [if_pos h1]
    exact pure_of bA0_ok 3 [] [false, false, true] (l := [decide (x < y) = true, (y != y) = false, (x != x) = false]) (by kernel_rfl) (by simp [allP, h1])
  · rw [if_neg h1]
    by_cases h2 : y < x
    · rw [if_pos h2]
      exact pure_of bA0_ok 3 [] [false, false, false, true] (l := [decide (x > y) = true, decide (x < y) = false, (y != y) = false, (x != x) = false]) (by kernel_rfl) (by simp [allP]; omega)
    · rw [if_neg h2]
      exact pure_of bA0_ok 3 [] [false, false, false, false] (l := [decide (x > y) = false, decide (x < y) = false, (y != y) = false, (x != x) = false]) (by kernel_rfl) (by simp [allP]; omega)

def specCompare : List Value → Option (Value × List Prop)
  | [.int .i64 x, .int .i64 y] => some (.int .i64 (cmpI x y), [])
  | _ => none
theorem specCompare_ok (args : List Value) (v : Value) (l : List Prop) (h : specCompare args = some (v, l)) (_ : allP l) : Pure Tryd.prog J0 44 args v := by
  unfold specCompare at h
  split at h
  · cases h; exact compare_pure _ _
  · cases h

noncomputable def tabA1 : Tab := tabAdd 30 specValid (tabAdd 44 specCompare tabA0)
theorem tabA1_ok : PcOk Tryd.prog J0 tabA1 := tabAdd_ok specValid_ok (tabAdd_ok specCompare_ok tabA0_ok)
noncomputable def bA1 : Base := ⟨Tryd.prog, J0, false, tabA1, mtab0, 200⟩
theorem bA1_ok : BaseOk bA1 := ⟨progOk, tabA1_ok, mtab0_ok _ _⟩

theorem order_pure (c r d s : Int) : Pure Tryd.prog J0 33 [vCell c r, vCell d s] (vi (orderI c r d s)) := by
  unfold orderI
  by_cases h1 : cmpI r s ≠ 0
  · rw [if_pos h1]
    exact pure_of bA1_ok 3 [] [true, true] (l := [(cmpI r s != 0) = true, 0 ≤ (0 : Int) ∧ (0 : Int) < (2 : Nat), decide ((0 : Int) < (2 : Nat)) = true]) (by kernel_rfl) (by simp [allP, h1])
  · rw [if_neg h1]
    by_cases h2 : cmpI c d ≠ 0
    · exact pure_of bA1_ok 3 [] [true, false, true, true] (l := [(cmpI c d != 0) = true, 0 ≤ IntKind.i64.wrap (0 + 1) ∧ IntKind.i64.wrap (0 + 1) < (2 : Nat), decide (IntKind.i64.wrap (0 + 1) < (2 : Nat)) = true, (cmpI r s != 0) = false, 0 ≤ (0 : Int) ∧ (0 : Int) < (2 : Nat), decide ((0 : Int) < (2 : Nat)) = true]) (by kernel_rfl) (by
        simp only [ne_eq, Decidable.not_not] at h1
        simp [allP, h1, h2, IntKind.wrap, IntKind.bits, IntKind.signed])
    · have e2 : cmpI c d = 0 := by simpa using h2
      rw [e2]
      exact pure_of bA1_ok 3 [] [true, false, true, false, false] (l := [decide (IntKind.i64.wrap (IntKind.i64.wrap (0 + 1) + 1) < (2 : Nat)) = false, (cmpI c d != 0) = false, 0 ≤ IntKind.i64.wrap (0 + 1) ∧ IntKind.i64.wrap (0 + 1) < (2 : Nat), decide (IntKind.i64.wrap (0 + 1) < (2 : Nat)) = true, (cmpI r s != 0) = false, 0 ≤ (0 : Int) ∧ (0 : Int) < (2 : Nat), decide ((0 : Int) < (2 : Nat)) = true]) (by kernel_rfl) (by
        simp only [ne_eq, Decidable.not_not] at h1
        simp [allP, h1, e2, IntKind.wrap, IntKind.bits, IntKind.signed])

def specOrder : List Value → Option (Value × List Prop)
  | [.agg ⟨[.int .i64 c, .int .i64 r]⟩, .agg ⟨[.int .i64 d, .int .i64 s]⟩] => some (.int .i64 (orderI c r d s), [])
  | _ => none
theorem specOrder_ok (args : List Value) (v : Value) (l : List Prop) (h : specOrder args = some (v, l)) (_ : allP l) : Pure Tryd.prog J0 33 args v := by
  unfold specOrder at h
  split at h
  · cases h; exact order_pure _ _ _ _
  · cases h

theorem validArea_pure (c r d s : Int) : Pure Tryd.prog J0 15 [vArea c r d s] (.bool (areaB c r d s)) :=
  pure_of bA1_ok 3 [] [] (l := []) (by kernel_rfl) trivial
def specValidArea : List Value → Option (Value × List Prop)
  | [.agg ⟨[.int .i64 c, .int .i64 r, .int .i64 d, .int .i64 s]⟩] => some (.bool (areaB c r d s), [])
  | _ => none
theorem specValidArea_ok (args : List Value) (v : Value) (l : List Prop) (h : specValidArea args = some (v, l)) (_ : allP l) : Pure Tryd.prog J0 15 args v := by
  unfold specValidArea at h
  split at h
  · cases h; exact validArea_pure _ _ _ _
  · cases h

noncomputable def tabA2 : Tab := tabAdd 15 specValidArea (tabAdd 33 specOrder tabA1)
theorem tabA2_ok : PcOk Tryd.prog J0 tabA2 := tabAdd_ok specValidArea_ok (tabAdd_ok specOrder_ok tabA1_ok)
noncomputable def bA2 : Base := ⟨Tryd.prog, J0, false, tabA2, mtab0, 200⟩
theorem bA2_ok : BaseOk bA2 := ⟨progOk, tabA2_ok, mtab0_ok _ _⟩

theorem in_pure (c r d s x y : Int) : Pure Tryd.prog J0 17 [vArea c r d s, vCell x y] (.bool (inB c r d s x y)) :=
  pure_of bA2_ok 3 [] [] (l := []) (by kernel_rfl) trivial
def specIn : List Value → Option (Value × List Prop)
  | [.agg ⟨[.int .i64 c, .int .i64 r, .int .i64 d, .int .i64 s]⟩, .agg ⟨[.int .i64 x, .int .i64 y]⟩] => some (.bool (inB c r d s x y), [])
  | _ => none
theorem specIn_ok (args : List Value) (v : Value) (l : List Prop) (h : specIn args = some (v, l)) (_ : allP l) : Pure Tryd.prog J0 17 args v := by
  unfold specIn at h
  split at h
  · cases h; exact in_pure _ _ _ _ _ _
  · cases h

theorem mul_bound {x y : Int} (h1 : 1 ≤ x) (h2 : x ≤ 256) (h3 : 1 ≤ y) (h4 : y ≤ 4096) : 1 ≤ x * y ∧ x * y ≤ 1048576 := by
  constructor
  · have : 1 * 1 ≤ x * y := Int.mul_le_mul h1 h3 (by omega) (by omega)
    omega
  · have : x * y ≤ 256 * 4096 := Int.mul_le_mul h2 h4 (by omega) (by omega)
    omega

theorem size_pure (c r d s : Int) : Pure Tryd.prog J0 19 [vArea c r d s] (vi (sizeI c r d s)) := by
  unfold sizeI
  cases h : areaB c r d s
  · exact pure_of bA2_ok 3 [] [true] (l := [(!areaB c r d s) = true]) (by kernel_rfl) (by simp [allP, h])
  · have hv := areaB_iff.1 h
    have hv1 := validB_iff.1 hv.1
    have hv2 := validB_iff.1 hv.2.1
    have hm := mul_bound (x := d - c + 1) (y := s - r + 1) (by omega) (by omega) (by omega) (by omega)
    have e : (d - c + 1) * (s - r + 1) = IntKind.i64.wrap (IntKind.i64.wrap (IntKind.i64.wrap (d - c) + 1) * IntKind.i64.wrap (IntKind.i64.wrap (s - r) + 1)) := by
      rw [wrapS (n := d - c) (by omega) (by omega), wrapS (n := s - r) (by omega) (by omega), wrapS (n := d - c + 1) (by omega) (by omega), wrapS (n := s - r + 1) (by omega) (by omega)]
      generalize (d - c + 1) * (s - r + 1) = m at *
      exact (wrapS (by omega) (by omega)).symm
    rw [if_pos rfl, e]
    exact pure_of bA2_ok 3 [] [false] (l := [(!areaB c r d s) = false]) (by kernel_rfl) (by simp [allP, h])
def specSize : List Value → Option (Value × List Prop)
  | [.agg ⟨[.int .i64 c, .int .i64 r, .int .i64 d, .int .i64 s]⟩] => some (.int .i64 (sizeI c r d s), [])
  | _ => none
theorem specSize_ok (args : List Value) (v : Value) (l : List Prop) (h : specSize args = some (v, l)) (_ : allP l) : Pure Tryd.prog J0 19 args v := by
  unfold specSize at h
  split at h
  · cases h; exact size_pure _ _ _ _
  · cases h

/-- What Meet answers. -/
def meetV (c r d s e f g h : Int) : Value :=
  .tuple ⟨[vArea (mz (meetB c r d s e f g h) (maxG c e)) (mz (meetB c r d s e f g h) (maxG r f)) (mz (meetB c r d s e f g h) (minG d g)) (mz (meetB c r d s e f g h) (minG s h)), .bool (meetB c r d s e f g h)]⟩

theorem meet_pure (c r d s e f g h : Int) : Pure Tryd.prog J0 25 [vArea c r d s, vArea e f g h] (meetV c r d s e f g h) := by
  unfold meetV
  cases hm : meetB c r d s e f g h
  · exact pure_of bA2_ok 3 [] [true] (l := [(!areaB c r d s || !areaB e f g h || !areaB (maxG c e) (maxG r f) (minG d g) (minG s h)) = true]) (by kernel_rfl) (by
      unfold meetB at hm
      revert hm
      generalize areaB c r d s = p
      generalize areaB e f g h = q
      generalize areaB (maxG c e) (maxG r f) (minG d g) (minG s h) = t
      cases p <;> cases q <;> cases t <;> simp [allP])
  · exact pure_of bA2_ok 3 [] [false] (l := [(!areaB c r d s || !areaB e f g h || !areaB (maxG c e) (maxG r f) (minG d g) (minG s h)) = false]) (by kernel_rfl) (by
      unfold meetB at hm
      revert hm
      generalize areaB c r d s = p
      generalize areaB e f g h = q
      generalize areaB (maxG c e) (maxG r f) (minG d g) (minG s h) = t
      cases p <;> cases q <;> cases t <;> simp [allP])
def specMeet : List Value → Option (Value × List Prop)
  | [.agg ⟨[.int .i64 c, .int .i64 r, .int .i64 d, .int .i64 s]⟩, .agg ⟨[.int .i64 e, .int .i64 f, .int .i64 g, .int .i64 h]⟩] =>
    some (.tuple ⟨[vArea (mz (meetB c r d s e f g h) (maxG c e)) (mz (meetB c r d s e f g h) (maxG r f)) (mz (meetB c r d s e f g h) (minG d g)) (mz (meetB c r d s e f g h) (minG s h)), .bool (meetB c r d s e f g h)]⟩, [])
  | _ => none
theorem specMeet_ok (args : List Value) (v : Value) (l : List Prop) (h : specMeet args = some (v, l)) (_ : allP l) : Pure Tryd.prog J0 25 args v := by
  unfold specMeet at h
  split at h
  · cases h; exact meet_pure _ _ _ _ _ _ _ _
  · cases h

def specAwake : List Value → Option (Value × List Prop)
  | [] => some (.bool true, [])
  | _ => none
theorem specAwake_ok (args : List Value) (v : Value) (l : List Prop) (h : specAwake args = some (v, l)) (_ : allP l) : Pure Tryd.prog J0 8 args v := by
  unfold specAwake at h
  split at h
  · cases h; exact awake_pure
  · cases h

noncomputable def tabA3 : Tab := tabAdd 25 specMeet (tabAdd 17 specIn (tabAdd 19 specSize (tabAdd 8 specAwake tabA2)))
theorem tabA3_ok : PcOk Tryd.prog J0 tabA3 := tabAdd_ok specMeet_ok (tabAdd_ok specIn_ok (tabAdd_ok specSize_ok (tabAdd_ok specAwake_ok tabA2_ok)))
noncomputable def bA3 : Base := ⟨Tryd.prog, J0, false, tabA3, mtab0, 200⟩
theorem bA3_ok : BaseOk bA3 := ⟨progOk, tabA3_ok, mtab0_ok _ _⟩

end Go.Proofs.YthclpocignpfhaaDoor
