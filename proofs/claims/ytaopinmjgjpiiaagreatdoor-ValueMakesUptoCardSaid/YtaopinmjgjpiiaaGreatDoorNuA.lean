/-
  The seat of names and numbers: what all its texts share.
-/
import Derived.Test.YtaopinmjgjpiiaaGreatDoorRows
import Derived.Test.YtaopinmjgjpiiaaGreatDoorEvJK
import Derived.Laws.Externs
import Derived.Lib.Bytealg
import Derived.KernelRfl
import Derived.Lib.LaidTab
import Derived.Lib.ItoaMem
import Derived.Lib.MakeNoZero
import Derived.Shelf.Unicode.DecodeSlow
import GoSem.PinnedTables
namespace Go.Proofs.YtaopinmjgjpiiaaGreatDoor
open Go Go.RowKit Ev

def dB32 : List Int := [0, 1, 28, 2, 29, 14, 24, 3, 30, 22, 20, 15, 25, 17, 4, 8, 31, 27, 13, 23, 21, 19, 16, 7, 26, 12, 18, 6, 11, 5, 10, 9]
def dB64 : List Int := [0, 1, 56, 2, 57, 49, 28, 3, 61, 58, 42, 50, 38, 29, 17, 4, 62, 47, 59, 36, 45, 43, 51, 22, 53, 39, 33, 30, 24, 18, 12, 5, 63, 55, 48, 27, 60, 41, 37, 16, 46, 35, 44, 21, 52, 32, 23, 11, 54, 26, 40, 15, 34, 20, 31, 10, 25, 14, 19, 9, 13, 8, 7, 6]

/-- A variable holds just these. -/
def VarIs (w : World) (g : Nat) (k : IntKind) (zs : List Int) : Prop := ∃ t fr, w.heap[g]? = some (.cells (zs.map (Value.int k)).toArray t fr)

/-- It holds these, and perhaps more. -/
def HasInts (w : World) (g : Nat) (k : IntKind) (zs : List Int) : Prop := ∃ cs t fr, w.heap[g]? = some (.cells cs t fr) ∧ ∀ i, i < zs.length → cs[i]? = some (.int k (zs.getD i 0))

theorem HasInts.orep {w : World} {g : Nat} {k : IntKind} {zs : List Int} (h : HasInts w g k zs) (B : Nat) (M : Nat → Prop) (ρ : Num) : ORep B M ρ w (some g) (.ints k zs) := by
  obtain ⟨cs, t, fr, h1, h2⟩ := h
  exact .inr ⟨g, cs, t, fr, rfl, h1, h2⟩

theorem VarIs.has {w : World} {g : Nat} {k : IntKind} {zs : List Int} (h : VarIs w g k zs) : HasInts w g k zs := by
  obtain ⟨t, fr, h⟩ := h
  exact ⟨_, t, fr, h, fun i hi => by simp [List.getD, hi]⟩

def firstZ : List Int := Go.Pinned.utf8FirstZ.map Int.ofNat
def acceptZ : List Int := [128, 191, 160, 191, 128, 159, 144, 191, 128, 143, 0, 0, 0, 0, 0, 0, 0, 0, 0, 0, 0, 0, 0, 0, 0, 0, 0, 0, 0, 0, 0, 0]

theorem cells_all {w : World} {g : Nat} {zs : List Int} (h0 : 0 < zs.length) (h : ∀ i, i < zs.length → w.cell? ⟨g, i, none⟩ = some (.int .u8 (zs.getD i 0))) : HasInts w g .u8 zs := by
  have hb : ∀ i v, w.cell? ⟨g, i, none⟩ = some v → ∃ cs t fr, w.heap[g]? = some (.cells cs t fr) ∧ cs[i]? = some v := by
    intro i v hv
    unfold World.cell? at hv
    split at hv
    · rename_i cs t fr hc
      exact ⟨cs, t, fr, hc, by simpa using hv⟩
    · cases hv
  obtain ⟨cs, t, fr, h1, _⟩ := hb 0 _ (h 0 h0)
  refine ⟨cs, t, fr, h1, fun i hi => ?_⟩
  obtain ⟨cs', t', fr', h1', h2⟩ := hb i _ (h i hi)
  rw [h1] at h1'
  cases h1'
  exact h2

theorem first_ok : (List.range 256).all (fun c => decide (firstZ.getD c 0 = (Lib.firstT c : Int))) = true := by decide +kernel
theorem accept_ok : (List.range 16).all (fun i => decide (acceptZ.getD (2 * i) 0 = (Lib.accLo i : Int)) && decide (acceptZ.getD (2 * i + 1) 0 = (Lib.accHi i : Int))) = true := by decide +kernel

theorem first_len : firstZ.length = 256 := by kernel_rfl

theorem utf8_has {g h : Nat} {w : World} (t : Lib.Utf8Tabs g h w) : HasInts w g .u8 firstZ ∧ HasInts w h .u8 acceptZ := by
  obtain ⟨t1, t2⟩ := t
  refine ⟨cells_all (show 0 < firstZ.length from Nat.lt_of_lt_of_eq (by decide : 0 < 256) first_len.symm) fun i hi => ?_, cells_all (by decide) fun i hi => ?_⟩
  · have hi' : i < 256 := Nat.lt_of_lt_of_eq hi first_len
    rw [t1 i hi', of_decide_eq_true (List.all_eq_true.1 first_ok i (List.mem_range.2 hi'))]
  · have hi' : i < 32 := hi
    have := List.all_eq_true.1 accept_ok (i / 2) (List.mem_range.2 (by omega))
    simp only [Bool.and_eq_true, decide_eq_true_eq] at this
    obtain ⟨q1, q2⟩ := t2 (i / 2) (by omega)
    rcases Nat.mod_two_eq_zero_or_one i with e | e
    · have e2 : i = 2 * (i / 2) := by omega
      rw [e2, q1, this.1]
    · have e2 : i = 2 * (i / 2) + 1 := by omega
      rw [e2, q2, this.2]

theorem utf8_same {g h n : Nat} {w w' : World} (hg : g < n) (hh : h < n) (hk : ∀ k, k < n → w'.heap[k]? = w.heap[k]?) (t : Lib.Utf8Tabs g h w) : Lib.Utf8Tabs g h w' := by
  have e : ∀ b c, b < n → w'.cell? ⟨b, c, none⟩ = w.cell? ⟨b, c, none⟩ := fun b c hb => by unfold World.cell?; simp only [hk b hb]
  exact ⟨fun c hc => by rw [e g c hg]; exact t.1 c hc, fun i hi => by rw [e h _ hh, e h _ hh]; exact t.2 i hi⟩

def tabsN : Heap := [(3, .ints .u64 Lib.pow10Tab), (7, .ints .u8 dB32), (8, .ints .u8 dB64), (1, .ints .u8 firstZ), (2, .ints .u8 acceptZ)]

theorem tabs_in : 3 < Tryz.prog.globals.size ∧ 7 < Tryz.prog.globals.size ∧ 8 < Tryz.prog.globals.size ∧ 1 < Tryz.prog.globals.size ∧ 2 < Tryz.prog.globals.size := of_decide_eq_true (by kernel_rfl)

/-- A variable of the library's that holds some number. -/
def SomeInt (w : World) (g : Nat) : Prop := ∃ m, w.cell? ⟨g, 0, none⟩ = some (.int .i64 m)
theorem maxLen_in : 4 < Tryz.prog.globals.size := of_decide_eq_true (by kernel_rfl)

/-- A variable of the library's that holds some interface's value. -/
def IfaceVar (w : World) (g : Nat) : Prop := ∃ ev, w.cell? ⟨g, 0, none⟩ = some ev ∧ (ev = .nilIface ∨ ∃ te pe, ev = .iface te pe)
theorem errs_in : 9 < Tryz.prog.globals.size ∧ 10 < Tryz.prog.globals.size := ⟨of_decide_eq_true (by kernel_rfl), of_decide_eq_true (by kernel_rfl)⟩

/-- Rows of numbers that lie in variables. -/
theorem tabs_ok {P : Program} {ρ : Num} (hg : ∀ g, g < P.globals.size → ρ g = some g) (B : Nat) (M : Nat → Prop) (w : World) : ∀ (L : List (Nat × IntKind × List Int)), (∀ x ∈ L, x.1 < P.globals.size ∧ HasInts w x.1 x.2.1 x.2.2) →
    ∀ i o, Heap.get (L.map fun x => (x.1, AObj.ints x.2.1 x.2.2)) i = some o → ORep B M ρ w (ρ i) o ∧ o.rw = false
  | [], _, i, o, h => by simp [Heap.get] at h
  | x :: L, hL, i, o, h => by
    rw [List.map_cons, Heap.get_cons] at h
    split at h
    · rename_i e
      subst e
      cases h
      obtain ⟨h1, h2⟩ := hL x (by simp)
      rw [hg _ h1]
      exact ⟨h2.orep B M ρ, rfl⟩
    · exact tabs_ok hg B M w L (fun y hy => hL y (List.mem_cons_of_mem _ hy)) i o h

/-- What is known of the world at all times: there is room for the variables, and the tables are as they were laid. -/
def J0 : Inv Tryz.prog where
  I w := Tryz.prog.globals.size ≤ w.heap.size ∧ VarIs w 3 .u64 Lib.pow10Tab ∧ VarIs w 7 .u8 dB32 ∧ VarIs w 8 .u8 dB64 ∧ Lib.Utf8Tabs 1 2 w ∧ SomeInt w 4 ∧ IfaceVar w 9 ∧ IfaceVar w 10
  st w w' h1 h2 h3 := by
    obtain ⟨g0, g1, g2, g3, g4, g5, g6, g7⟩ := h3
    exact ⟨Nat.le_trans g0 h2, by unfold VarIs; rw [h1 _ tabs_in.1]; exact g1, by unfold VarIs; rw [h1 _ tabs_in.2.1]; exact g2, by unfold VarIs; rw [h1 _ tabs_in.2.2.1]; exact g3, utf8_same tabs_in.2.2.2.1 tabs_in.2.2.2.2 h1 g4, by unfold SomeInt World.cell?; rw [h1 _ maxLen_in]; exact g5, by unfold IfaceVar World.cell?; rw [h1 _ errs_in.1]; exact g6, by unfold IfaceVar World.cell?; rw [h1 _ errs_in.2]; exact g7⟩
  room _ h := h.1
  tabs := tabsN
  tabsOk w ρ B M h hg := by
    obtain ⟨g0, g1, g2, g3, g4, g5, g6, g7⟩ := h
    obtain ⟨q1, q2⟩ := utf8_has g4
    have key := tabs_ok (P := Tryz.prog) hg B M w [(3, .u64, Lib.pow10Tab), (7, .u8, dB32), (8, .u8, dB64), (1, .u8, firstZ), (2, .u8, acceptZ)] (fun x hx => by
      simp only [List.mem_cons, List.not_mem_nil, or_false] at hx
      rcases hx with rfl | rfl | rfl | rfl | rfl
      · exact ⟨tabs_in.1, g1.has⟩
      · exact ⟨tabs_in.2.1, g2.has⟩
      · exact ⟨tabs_in.2.2.1, g3.has⟩
      · exact ⟨tabs_in.2.2.2.1, q1⟩
      · exact ⟨tabs_in.2.2.2.2, q2⟩)
    refine ⟨hg, fun i o hi => (key i o hi).1, fun i j oi oj hi hr _ _ _ => ?_⟩
    rw [(key i oi hi).2] at hr
    cases hr
  tabsRo i o hi := by
    unfold tabsN at hi
    rw [Heap.get_cons, Heap.get_cons, Heap.get_cons, Heap.get_cons, Heap.get_cons] at hi
    split at hi
    · cases hi; rfl
    · split at hi
      · cases hi; rfl
      · split at hi
        · cases hi; rfl
        · split at hi
          · cases hi; rfl
          · split at hi
            · cases hi; rfl
            · simp [Heap.get] at hi

theorem progOk : ProgOk Tryz.prog := by
  refine ⟨by kernel_rfl, fun f fn h => ?_⟩
  have hall : (Tryz.prog.funcs.toList.all fun fn => !(fn.name == "runtime.NumGoroutine")) = true := by kernel_rfl
  have := List.all_eq_true.1 hall fn (by
    have := Array.mem_of_getElem? h
    simpa using this)
  simpa using this

theorem ext_indexByteString (s : ByteArray) (c : Int) : Pure Tryz.prog J0 273 [.string s, .int .u8 c] (.int .i64 (Lib.indexByte s.data.toList c.toNat.toUInt8)) := by
  refine ⟨rfl, rfl, .inr fun w _ => ?_⟩
  rw [run_callFunc_extern Tryz.func273 (by kernel_rfl) (by kernel_rfl) (by kernel_rfl) (e := Extern.BytealgIndexByte.indexByte) (by kernel_rfl), Lib.run_indexByteString]
  rfl

def specIndexByte : List Value → Option (Value × List Prop)
  | [.string s, .int .u8 c] => some (.int .i64 (Lib.indexByte s.data.toList c.toNat.toUInt8), [])
  | _ => none

theorem specIndexByte_ok (args : List Value) (v : Value) (l : List Prop) (h : specIndexByte args = some (v, l)) (_ : allP l) : Pure Tryz.prog J0 273 args v := by
  unfold specIndexByte at h
  split at h
  · cases h; exact ext_indexByteString _ _
  · cases h

theorem ext_of {f : FuncId} {fn : Func} (hf : Tryz.prog.funcs[f]? = some fn) (h1 : (fn.name == "runtime.NumGoroutine") = false) (h2 : fn.body.isNone = true) (h3 : Extern.findNext fn = none) {e : Array Value → Sem Value} (h4 : Extern.find fn = some e)
    {args : List Value} {v : Value} (hp : pureL args = true) (hv : pureV v = true) (hr : ∀ w, (e ⟨args⟩).run Tryz.prog w = .ok v w) : Pure Tryz.prog J0 f args v := by
  refine ⟨hp, hv, .inr fun w _ => ?_⟩
  rw [run_callFunc_extern hf h1 h2 h3 h4]
  simp [hr]

def specF64bits : List Value → Option (Value × List Prop)
  | [.float .f64 b] => some (.int .u64 b, [])
  | _ => none
theorem specF64bits_ok (args : List Value) (v : Value) (l : List Prop) (h : specF64bits args = some (v, l)) (_ : allP l) : Pure Tryz.prog J0 58 args v := by
  unfold specF64bits at h
  split at h
  · cases h; exact ext_of Tryz.func58 (by kernel_rfl) (by kernel_rfl) (by kernel_rfl) (e := Extern.MathFloatBits.float64bits) (by kernel_rfl) rfl rfl (fun _ => rfl)
  · cases h

def specF64from : List Value → Option (Value × List Prop)
  | [.int .u64 b] => some (.float .f64 b.toNat, [])
  | _ => none
theorem specF64from_ok (args : List Value) (v : Value) (l : List Prop) (h : specF64from args = some (v, l)) (_ : allP l) : Pure Tryz.prog J0 21 args v := by
  unfold specF64from at h
  split at h
  · cases h; exact ext_of Tryz.func21 (by kernel_rfl) (by kernel_rfl) (by kernel_rfl) (e := Extern.MathFloatBits.float64frombits) (by kernel_rfl) rfl rfl (fun _ => rfl)
  · cases h

theorem three_run (name : String) {x y c : Int} (hc : c.toNat ≤ 1) (w : World) : (Extern.MathBitsCarry.three name #[.int .u64 x, .int .u64 y, .int .u64 c]).run Tryz.prog w = .ok (x.toNat, y.toNat, c.toNat) w := by
  have hdef : Extern.MathBitsCarry.three name #[.int .u64 x, .int .u64 y, .int .u64 c] = (do
    let c0 ← asInt (.int .u64 c)
    if c0.toNat > 1 then unsupported (.noEntry ("extern/math/bits." ++ name ++ ": a carry that is neither 0 nor 1"))
    pure ((← asInt (.int .u64 x)).toNat, (← asInt (.int .u64 y)).toNat, c0.toNat)) := rfl
  rw [hdef]
  simp [asInt, asIntOf]
  omega

def specAdd64 : List Value → Option (Value × List Prop)
  | [.int .u64 x, .int .u64 y, .int .u64 c] => match Nat.ble c.toNat 1 with
    | true => some (.tuple ⟨[.int .u64 (Int.ofNat ((x.toNat + y.toNat + c.toNat) % 18446744073709551616)), .int .u64 (Int.ofNat ((x.toNat + y.toNat + c.toNat) / 18446744073709551616))]⟩, [])
    | false => none
  | _ => none
theorem specAdd64_ok (args : List Value) (v : Value) (l : List Prop) (h : specAdd64 args = some (v, l)) (_ : allP l) : Pure Tryz.prog J0 195 args v := by
  unfold specAdd64 at h
  split at h
  case h_2 => cases h
  rename_i x y c
  split at h
  case h_2 => cases h
  rename_i hc
  have hc := Nat.le_of_ble_eq_true hc
  cases h
  refine ext_of Tryz.func195 (by kernel_rfl) (by kernel_rfl) (by kernel_rfl) (e := fun args => do
    let (x, y, c) ← Extern.MathBitsCarry.three "Add64" args
    pure (Extern.MathBitsCarry.pair ((x + y + c) % Extern.MathBitsCarry.m64) ((x + y + c) / Extern.MathBitsCarry.m64))) (by kernel_rfl) rfl rfl (fun w => ?_)
  simp [three_run _ hc, Extern.MathBitsCarry.pair, Extern.MathBitsCarry.m64]

def specSub64 : List Value → Option (Value × List Prop)
  | [.int .u64 x, .int .u64 y, .int .u64 c] => match Nat.ble c.toNat 1 with
    | true => some (.tuple ⟨[.int .u64 (Int.ofNat ((x.toNat + 18446744073709551616 - y.toNat - c.toNat) % 18446744073709551616)), .int .u64 (Int.ofNat (match Nat.blt x.toNat (y.toNat + c.toNat) with | true => 1 | false => 0))]⟩, [])
    | false => none
  | _ => none
theorem specSub64_ok (args : List Value) (v : Value) (l : List Prop) (h : specSub64 args = some (v, l)) (_ : allP l) : Pure Tryz.prog J0 282 args v := by
  unfold specSub64 at h
  split at h
  case h_2 => cases h
  rename_i x y c
  split at h
  case h_2 => cases h
  rename_i hc
  have hc := Nat.le_of_ble_eq_true hc
  cases h
  refine ext_of Tryz.func282 (by kernel_rfl) (by kernel_rfl) (by kernel_rfl) (e := fun args => do
    let (x, y, b) ← Extern.MathBitsCarry.three "Sub64" args
    pure (Extern.MathBitsCarry.pair ((x + Extern.MathBitsCarry.m64 - y - b) % Extern.MathBitsCarry.m64) (if x < y + b then 1 else 0))) (by kernel_rfl) rfl rfl (fun w => ?_)
  have hb : (if x.toNat < y.toNat + c.toNat then 1 else 0) = (match Nat.blt x.toNat (y.toNat + c.toNat) with | true => 1 | false => 0) := by
    by_cases hlt : x.toNat < y.toNat + c.toNat
    · rw [if_pos hlt, show Nat.blt x.toNat (y.toNat + c.toNat) = true by simp [Nat.blt_eq]; exact hlt]
    · rw [if_neg hlt, show Nat.blt x.toNat (y.toNat + c.toNat) = false by cases hb : Nat.blt x.toNat (y.toNat + c.toNat) <;> first | rfl | exact absurd (by simpa [Nat.blt_eq] using hb) hlt]
  rw [← hb]
  simp [three_run _ hc, Extern.MathBitsCarry.pair, Extern.MathBitsCarry.m64]

/-! Functions of the machine over memory. -/

def specSame : List Value → Heap → Nat → Option CR
  | [x], H, n => some ⟨x, H, n, [], []⟩
  | _, _, _ => none

theorem specSame_ok {f : FuncId} {fn : Func} (hf : Tryz.prog.funcs[f]? = some fn) (h1 : (fn.name == "runtime.NumGoroutine") = false) (h2 : fn.body.isNone = true) (h3 : Extern.findNext fn = none) (h4 : Extern.find fn = some Extern.AbiNoEscape.same) : XsOk Tryz.prog J0 f specSame := by
  intro args H n r h _
  unfold specSame at h
  split at h
  case h_2 => cases h
  rename_i x
  cases h
  refine ⟨Nat.le_refl _, fun B M ρ w vs _ _ _ hS => ⟨ρ, rv ρ x, w, Agree.refl _ _, ?_, Keeps.refl _ _ _, fun ρ' ha => ⟨?_, (hS ρ' ha).1⟩⟩⟩
  · rw [run_callFunc_extern hf h1 h2 h3 h4, (hS ρ (Agree.refl _ _)).2]
    rfl
  · have e1 := (hS ρ (Agree.refl _ _)).2
    have e2 := (hS ρ' ha).2
    rw [e1] at e2
    simpa [rvL] using e2

def specNoZero (e : TypeId) : List Value → Heap → Nat → Option CR
  | [.int .i64 m], H, n => match m with
    | .ofNat m => match Nat.ble m 281474976710656 with
      | true => some ⟨.slice (some ⟨n, 0, some (n + 1)⟩) m 0, (n, .row e 1 (.ints .u8 []) (n + 1)) :: H, n + 2, [], []⟩
      | false => none
    | .negSucc _ => none
  | _, _, _ => none

theorem specNoZero_ok : XsOk Tryz.prog J0 257 (specNoZero 5) := by
  intro args H n r h _
  unfold specNoZero at h
  split at h
  case h_2 => cases h
  split at h
  case h_2 => cases h
  rename_i m
  split at h
  case h_2 => cases h
  rename_i hm
  have hm := Nat.le_of_ble_eq_true hm
  cases h
  refine ⟨Nat.le_add_right _ _, fun B M ρ w vs _ hB _ hS => ?_⟩
  obtain ⟨cs, hrun, hle, hmax⟩ := Lib.run_makeNoZero (P := Tryz.prog) w #[3] 182 5 (by kernel_rfl) m hm
  refine ⟨fun i => if i = n then some w.heap.size else if i = n + 1 then some cs.size else ρ i, .slice (some ⟨w.heap.size, 0, none⟩) m cs.size, w.drew.drew.alloc (.cells cs 5), fun i hi => ?_, ?_, ?_, fun ρ' ha => ?_⟩
  · show (if i = n then some w.heap.size else if i = n + 1 then some cs.size else ρ i) = ρ i
    simp only [show i ≠ n by omega, show i ≠ n + 1 by omega, if_false]
  · rw [run_callFunc_extern Tryz.func257 (by kernel_rfl) (by kernel_rfl) (by kernel_rfl) (e := Extern.BytealgMakeNoZero.makeNoZero #[3] #[182]) (by kernel_rfl), (hS ρ (Agree.refl _ _)).2]
    have e1 : (⟨rvL ρ [.int .i64 (Int.ofNat m)]⟩ : Array Value) = #[.int .i64 m] := by simp [rvL, rv]
    rw [e1, hrun]
    rfl
  · exact ⟨rfl, rfl, rfl, by simp, fun k hk _ => by rw [heap_alloc_old _ _ (by simpa using Nat.lt_of_lt_of_le hk hB)]; rfl⟩
  · have h1 := ha n (by simp)
    have h2 := ha (n + 1) (by simp)
    simp only [if_true] at h1
    simp only [show n + 1 ≠ n by omega, if_false, if_true] at h2
    refine ⟨by simp [rv, rSl, h1, h2], Sim.row (hS ρ' (fun i hi => ?_)).1 (fun i o _ hi => ⟨hi, fun e => ?_⟩) h1 h2 (.of (heap_alloc_new _ _)) (.inl (by simpa using hB)) (hmax (by unfold maxLen; omega)) (by omega) (by simp [Row.list]) (by simp [Row.list, rvL]) (fun k hk _ => by rw [heap_alloc_old _ _ (by simpa using hk)]; rfl)⟩
    · have := ha i (by simp; omega)
      simp only [show i ≠ n by omega, show i ≠ n + 1 by omega, if_false] at this
      exact this
    · have := ((hS ρ' (fun i hi => by
        have := ha i (by simp; omega)
        simp only [show i ≠ n by omega, show i ≠ n + 1 by omega, if_false] at this
        exact this)).1).obj i o hi
      rw [e] at this
      exact absurd this.lt (Nat.lt_irrefl _)

noncomputable def xtN0 : FuncId → List Value → Heap → Nat → Option CR := xtAdd 256 specSame (xtAdd 257 (specNoZero 5) xt0)
theorem xtN0_ok : XtOk Tryz.prog J0 xtN0 := xtAdd_ok (specSame_ok Tryz.func256 (by kernel_rfl) (by kernel_rfl) (by kernel_rfl) (by kernel_rfl)) (xtAdd_ok specNoZero_ok (xt0_ok _ _))

noncomputable def tabN0 : Tab := tabAdd 195 specAdd64 (tabAdd 282 specSub64 (tabAdd 58 specF64bits (tabAdd 21 specF64from (tabAdd 273 specIndexByte tab0))))
theorem tabN0_ok : PcOk Tryz.prog J0 tabN0 := tabAdd_ok specAdd64_ok (tabAdd_ok specSub64_ok (tabAdd_ok specF64bits_ok (tabAdd_ok specF64from_ok (tabAdd_ok specIndexByte_ok (tab0_ok _ _)))))

/-- For closed arguments. -/
noncomputable def bN0 : Base := ⟨Tryz.prog, J0, true, tabN0, mtab0, 2000, xtN0⟩
theorem bN0_ok : BaseOk bN0 := ⟨progOk, tabN0_ok, mtab0_ok _ _, xtN0_ok⟩

end Go.Proofs.YtaopinmjgjpiiaaGreatDoor
