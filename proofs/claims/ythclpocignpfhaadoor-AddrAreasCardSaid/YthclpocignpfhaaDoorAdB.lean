/-
  Layer 10 (addr): contracts of texts and of copies.
-/
import Derived.Test.YthclpocignpfhaaDoorAdL
import Derived.Test.YthclpocignpfhaaDoorAdLay
import Derived.Lib.AppendIntMem
namespace Go.Proofs.YthclpocignpfhaaDoor
open Go Go.RowKit Ev AdS

theorem itoa_pure {n : Int} (h0 : 0 ≤ n) (h1 : n ≤ 9223372036854775807) : Pure Tryd.prog J0 41 [.int .i64 n] (.string ⟨⟨Lib.decDigits n.toNat⟩⟩) := by
  refine ⟨rfl, rfl, .inl ⟨enters_of Tryd.func41 (by kernel_rfl) (c := _) rfl, fun w hw => ?_⟩⟩
  refine (Any.strconv_Itoa Tryd.laysM171 n (by omega) h1 w hw.2).mono fun e w' ⟨he, k, os, hw'⟩ => ⟨?_, ?_⟩
  · rw [he, Lib.itoa, if_neg (by omega)]
  · rw [hw']; exact Lib.below_grow _ w (Nat.le_refl _) k os

/-! Digits: by induction. -/

def specDig (m : Int) : List Value → Option (Value × List Prop)
  | [.int .i64 k] => some (.string ⟨⟨digL k⟩⟩, [k ≤ m])
  | _ => none

noncomputable def tabD (m : Int) : Tab := tabAdd 47 (specDig m) tabA3
noncomputable def bD (m : Int) : Base := ⟨Tryd.prog, J0, false, tabD m, mtab0, 200⟩

theorem digits_ind : ∀ (m : Nat) (n : Int), n ≤ m → n ≤ 100000 → Pure Tryd.prog J0 47 [.int .i64 n] (.string ⟨⟨digL n⟩⟩) := by
  intro m
  induction m with
  | zero =>
    intro n h _
    rw [show digL n = [] by unfold digL; rw [if_pos (by omega)]]
    exact pure_of bA3_ok 3 [] [true] (l := [decide (n < 1) = true]) (by kernel_rfl) (by simp [allP]; omega)
  | succ m ih =>
    intro n h h2
    by_cases h0 : n < 1
    · rw [show digL n = [] by unfold digL; rw [if_pos h0]]
      exact pure_of bA3_ok 3 [] [true] (l := [decide (n < 1) = true]) (by kernel_rfl) (by simp [allP]; omega)
    · have hb : BaseOk (bD (min m 100000)) := ⟨progOk, tabAdd_ok (fun args v l h hl => by
        unfold specDig at h
        split at h
        · cases h
          have := hl.1
          exact ih _ (by omega) (by omega)
        · cases h) tabA3_ok, mtab0_ok _ _⟩
      have e1 : IntKind.i64.wrap (n.tdiv 10) = n / 10 := by
        rw [Int.tdiv_eq_ediv_of_nonneg (by omega)]; exact wrapS (by omega) (by omega)
      have e2 : (IntKind.u8.wrap (IntKind.i64.wrap (48 + n.tmod 10))).toNat = 48 + (n % 10).toNat := by
        rw [Int.tmod_eq_emod_of_nonneg (by omega), wrapS (by omega) (by omega)]
        unfold IntKind.wrap
        simp [IntKind.bits, IntKind.signed]
        omega
      have hl := digL_len (n / 10) (by omega)
      have key : Pure Tryd.prog J0 47 [.int .i64 n] (.string ⟨⟨digL (IntKind.i64.wrap (n.tdiv 10)) ++ [UInt8.ofNat (IntKind.u8.wrap (IntKind.i64.wrap (48 + n.tmod 10))).toNat]⟩⟩) :=
        pure_of hb 3 [] [false] (l := [(digL (IntKind.i64.wrap (n.tdiv 10))).length + 1 ≤ 9223372036854775807, IntKind.i64.wrap (n.tdiv 10) ≤ min (m : Int) 100000, decide (n < 1) = false]) (by kernel_rfl) (by
          rw [e1]
          simp only [allP, and_true, decide_eq_false_iff_not]
          omega)
      rw [e1, e2] at key
      rw [digL_step h0]
      exact key

theorem digits_pure {n : Int} (h0 : 1 ≤ n) (h1 : n ≤ 4096) : Pure Tryd.prog J0 47 [.int .i64 n] (.string ⟨⟨Lib.decDigits n.toNat⟩⟩) := by
  have := digits_ind n.toNat n (by omega) (by omega)
  rw [show digL n = Lib.decDigits n.toNat by unfold digL; rw [if_neg (by omega)]] at this
  exact this

def specLetters : List Value → Option (Value × List Prop)
  | [.int .i64 n] => some (.string ⟨⟨letL n.toNat⟩⟩, [1 ≤ n ∧ n ≤ 256])
  | _ => none
theorem specLetters_ok (args : List Value) (v : Value) (l : List Prop) (h : specLetters args = some (v, l)) (hl : allP l) : Pure Tryd.prog J0 40 args v := by
  unfold specLetters at h
  split at h
  · cases h; exact letters_pure hl.1.1 hl.1.2
  · cases h
theorem specRLetters_ok (args : List Value) (v : Value) (l : List Prop) (h : specLetters args = some (v, l)) (hl : allP l) : Pure Tryd.prog J0 46 args v := by
  unfold specLetters at h
  split at h
  · cases h; exact rletters_pure hl.1.1 hl.1.2
  · cases h

def specItoa : List Value → Option (Value × List Prop)
  | [.int .i64 n] => some (.string ⟨⟨Lib.decDigits n.toNat⟩⟩, [1 ≤ n ∧ n ≤ 4096])
  | _ => none
theorem specItoa_ok (args : List Value) (v : Value) (l : List Prop) (h : specItoa args = some (v, l)) (hl : allP l) : Pure Tryd.prog J0 41 args v := by
  unfold specItoa at h
  split at h
  · cases h
    have := hl.1
    exact itoa_pure (by omega) (by omega)
  · cases h
theorem specDigits_ok (args : List Value) (v : Value) (l : List Prop) (h : specItoa args = some (v, l)) (hl : allP l) : Pure Tryd.prog J0 47 args v := by
  unfold specItoa at h
  split at h
  · cases h
    have := hl.1
    exact digits_pure (by omega) (by omega)
  · cases h

theorem rvalid_pure (c r : Int) : Pure Tryd.prog J0 32 [vCell c r] (.bool (validB c r)) :=
  pure_of bA0_ok 3 [] [] (l := []) (by kernel_rfl) trivial
theorem specRValid_ok (args : List Value) (v : Value) (l : List Prop) (h : specValid args = some (v, l)) (_ : allP l) : Pure Tryd.prog J0 32 args v := by
  unfold specValid at h
  split at h
  · cases h; exact rvalid_pure _ _
  · cases h

theorem less_pure (x y : Int) : Pure Tryd.prog J0 45 [vi x, vi y] (vi (cmpI x y)) := by
  unfold cmpI
  by_cases h1 : x < y
  · rw [if_pos h1]
    exact pure_of bA0_ok 3 [] [true] (l := [decide (x < y) = true]) (by kernel_rfl) (by simp [allP, h1])
  · rw [if_neg h1]
    by_cases h2 : y < x
    · rw [if_pos h2]
      exact pure_of bA0_ok 3 [] [false, true] (l := [decide (y < x) = true, decide (x < y) = false]) (by kernel_rfl) (by simp [allP]; omega)
    · rw [if_neg h2]
      exact pure_of bA0_ok 3 [] [false, false] (l := [decide (y < x) = false, decide (x < y) = false]) (by kernel_rfl) (by simp [allP]; omega)
theorem specLess_ok (args : List Value) (v : Value) (l : List Prop) (h : specCompare args = some (v, l)) (_ : allP l) : Pure Tryd.prog J0 45 args v := by
  unfold specCompare at h
  split at h
  · cases h; exact less_pure _ _
  · cases h

noncomputable def tabB1 : Tab := tabAdd 32 specValid (tabAdd 45 specCompare (tabAdd 40 specLetters (tabAdd 46 specLetters (tabAdd 41 specItoa (tabAdd 47 specItoa tabA3)))))
theorem tabB1_ok : PcOk Tryd.prog J0 tabB1 := tabAdd_ok specRValid_ok (tabAdd_ok specLess_ok (tabAdd_ok specLetters_ok (tabAdd_ok specRLetters_ok (tabAdd_ok specItoa_ok (tabAdd_ok specDigits_ok tabA3_ok)))))
noncomputable def bB1 : Base := ⟨Tryd.prog, J0, false, tabB1, mtab0, 200⟩
theorem bB1_ok : BaseOk bB1 := ⟨progOk, tabB1_ok, mtab0_ok _ _⟩

theorem rorder_pure (c r d s : Int) : Pure Tryd.prog J0 34 [vCell c r, vCell d s] (vi (orderI c r d s)) := by
  unfold orderI
  by_cases h1 : cmpI r s ≠ 0
  · rw [if_pos h1]
    exact pure_of bB1_ok 3 [] [true] (l := [(cmpI r s != 0) = true]) (by kernel_rfl) (by simp [allP, h1])
  · rw [if_neg h1]
    exact pure_of bB1_ok 3 [] [false] (l := [(cmpI r s != 0) = false]) (by kernel_rfl) (by simpa [allP] using h1)
theorem specROrder_ok (args : List Value) (v : Value) (l : List Prop) (h : specOrder args = some (v, l)) (_ : allP l) : Pure Tryd.prog J0 34 args v := by
  unfold specOrder at h
  split at h
  · cases h; exact rorder_pure _ _ _ _
  · cases h

def vText (c r : Int) (p q : Bool) : Value := .tuple ⟨[.string ⟨⟨textS c r p q⟩⟩, .int .i64 (textE c r)]⟩

theorem text_len {c r : Int} (hv : validB c r = true) : (letL c.toNat).length ≤ 2 ∧ (Lib.decDigits r.toNat).length ≤ 5000 ∧ 1 ≤ c ∧ c ≤ 256 ∧ 1 ≤ r ∧ r ≤ 4096 := by
  have h := validB_iff.1 hv
  have := dec_len r.toNat r.toNat (Nat.le_refl _)
  exact ⟨(letL_len _).2, by omega, h⟩

theorem text_pure (c r : Int) (p q : Bool) : Pure Tryd.prog J0 29 [vRef c r p q] (vText c r p q) := by
  unfold vText textS textE
  cases hv : validB c r
  · exact pure_of bB1_ok 3 [] [true] (l := [(!validB c r) = true]) (by kernel_rfl) (by simp [allP, hv])
  · obtain ⟨h1, h2, h3⟩ := text_len hv
    cases p <;> cases q
    · exact pure_of bB1_ok 3 [] [false, false, false] (l := [(letL c.toNat).length + (Lib.decDigits r.toNat).length ≤ 9223372036854775807, 1 ≤ r ∧ r ≤ 4096, false = false, false = false, 1 ≤ c ∧ c ≤ 256, (!validB c r) = false]) (by kernel_rfl) (by simp [allP, hv]; omega)
    · exact pure_of bB1_ok 3 [] [false, false, true] (l := [(letL c.toNat ++ [36]).length + (Lib.decDigits r.toNat).length ≤ 9223372036854775807, 1 ≤ r ∧ r ≤ 4096, (letL c.toNat).length + 1 ≤ 9223372036854775807, true = true, false = false, 1 ≤ c ∧ c ≤ 256, (!validB c r) = false]) (by kernel_rfl) (by simp [allP, hv]; omega)
    · exact pure_of bB1_ok 3 [] [false, true, false] (l := [([36] ++ letL c.toNat).length + (Lib.decDigits r.toNat).length ≤ 9223372036854775807, 1 ≤ r ∧ r ≤ 4096, false = false, 1 + (letL c.toNat).length ≤ 9223372036854775807, true = true, 1 ≤ c ∧ c ≤ 256, (!validB c r) = false]) (by kernel_rfl) (by simp [allP, hv]; omega)
    · exact pure_of bB1_ok 3 [] [false, true, true] (l := [([36] ++ letL c.toNat ++ [36]).length + (Lib.decDigits r.toNat).length ≤ 9223372036854775807, 1 ≤ r ∧ r ≤ 4096, ([36] ++ letL c.toNat).length + 1 ≤ 9223372036854775807, true = true, 1 + (letL c.toNat).length ≤ 9223372036854775807, true = true, 1 ≤ c ∧ c ≤ 256, (!validB c r) = false]) (by kernel_rfl) (by simp [allP, hv]; omega)

theorem rtext_pure (c r : Int) (p q : Bool) : Pure Tryd.prog J0 35 [vRef c r p q] (vText c r p q) := by
  unfold vText textS textE
  cases hv : validB c r
  · exact pure_of bB1_ok 3 [] [true] (l := [(!validB c r) = true]) (by kernel_rfl) (by simp [allP, hv])
  · obtain ⟨h1, h2, h3⟩ := text_len hv
    cases p <;> cases q
    · exact pure_of bB1_ok 3 [] [false, false, false] (l := [(letL c.toNat).length + (Lib.decDigits r.toNat).length ≤ 9223372036854775807, 1 ≤ r ∧ r ≤ 4096, false = false, false = false, 1 ≤ c ∧ c ≤ 256, (!validB c r) = false]) (by kernel_rfl) (by simp [allP, hv]; omega)
    · exact pure_of bB1_ok 3 [] [false, false, true] (l := [(letL c.toNat ++ [36]).length + (Lib.decDigits r.toNat).length ≤ 9223372036854775807, 1 ≤ r ∧ r ≤ 4096, (letL c.toNat).length + 1 ≤ 9223372036854775807, true = true, false = false, 1 ≤ c ∧ c ≤ 256, (!validB c r) = false]) (by kernel_rfl) (by simp [allP, hv]; omega)
    · exact pure_of bB1_ok 3 [] [false, true, false] (l := [([36] ++ letL c.toNat).length + (Lib.decDigits r.toNat).length ≤ 9223372036854775807, 1 ≤ r ∧ r ≤ 4096, false = false, 1 + (letL c.toNat).length ≤ 9223372036854775807, true = true, 1 ≤ c ∧ c ≤ 256, (!validB c r) = false]) (by kernel_rfl) (by simp [allP, hv]; omega)
    · exact pure_of bB1_ok 3 [] [false, true, true] (l := [([36] ++ letL c.toNat ++ [36]).length + (Lib.decDigits r.toNat).length ≤ 9223372036854775807, 1 ≤ r ∧ r ≤ 4096, ([36] ++ letL c.toNat).length + 1 ≤ 9223372036854775807, true = true, 1 + (letL c.toNat).length ≤ 9223372036854775807, true = true, 1 ≤ c ∧ c ≤ 256, (!validB c r) = false]) (by kernel_rfl) (by simp [allP, hv]; omega)

def specText : List Value → Option (Value × List Prop)
  | [.agg ⟨[.int .i64 c, .int .i64 r, .bool p, .bool q]⟩] => some (.tuple ⟨[.string ⟨⟨textS c r p q⟩⟩, .int .i64 (textE c r)]⟩, [])
  | _ => none
theorem specText_ok (args : List Value) (v : Value) (l : List Prop) (h : specText args = some (v, l)) (_ : allP l) : Pure Tryd.prog J0 29 args v := by
  unfold specText at h
  split at h
  · cases h; exact text_pure _ _ _ _
  · cases h
theorem specRText_ok (args : List Value) (v : Value) (l : List Prop) (h : specText args = some (v, l)) (_ : allP l) : Pure Tryd.prog J0 35 args v := by
  unfold specText at h
  split at h
  · cases h; exact rtext_pure _ _ _ _
  · cases h

theorem moved_pure (n d : Int) (x : Bool) : Pure Tryd.prog J0 42 [vi n, vi d, .bool x] (vi (movI n d x)) := by
  unfold movI
  cases x
  · rw [if_neg (by simp)]
    cases h : (decide (d > 1048576) || decide (d < -1048576))
    · exact pure_of bA0_ok 3 [] [false, false] (l := [(decide (d > 1048576) || decide (d < -1048576)) = false, false = false]) (by kernel_rfl) (by simp only [allP, h, and_true])
    · exact pure_of bA0_ok 3 [] [false, true] (l := [(decide (d > 1048576) || decide (d < -1048576)) = true, false = false]) (by kernel_rfl) (by simp only [allP, h, and_true])
  · exact pure_of bA0_ok 3 [] [true] (l := [true = true]) (by kernel_rfl) (by simp [allP])
def specMoved : List Value → Option (Value × List Prop)
  | [.int .i64 n, .int .i64 d, .bool x] => some (.int .i64 (movI n d x), [])
  | _ => none
theorem specMoved_ok (args : List Value) (v : Value) (l : List Prop) (h : specMoved args = some (v, l)) (_ : allP l) : Pure Tryd.prog J0 42 args v := by
  unfold specMoved at h
  split at h
  · cases h; exact moved_pure _ _ _
  · cases h

theorem shifted_pure (n d m : Int) (x : Bool) : Pure Tryd.prog J0 48 [vi n, vi d, vi m, .bool x] (.tuple ⟨[vi (shfI n d m x), .bool (shfB n d m x)]⟩) := by
  unfold shfI shfB
  cases x
  · simp only [Bool.false_eq_true, if_false]
    cases h : (decide (d < IntKind.i64.wrap (0 - n)) || decide (d > m))
    · exact pure_of bA0_ok 3 [] [false, false] (l := [(decide (d < IntKind.i64.wrap (0 - n)) || decide (d > m)) = false, false = false]) (by kernel_rfl) (by simp only [allP, h, and_true])
    · exact pure_of bA0_ok 3 [] [false, true] (l := [(decide (d < IntKind.i64.wrap (0 - n)) || decide (d > m)) = true, false = false]) (by kernel_rfl) (by simp only [allP, h, and_true])
  · exact pure_of bA0_ok 3 [] [true] (l := [true = true]) (by kernel_rfl) (by simp [allP])
def specShifted : List Value → Option (Value × List Prop)
  | [.int .i64 n, .int .i64 d, .int .i64 m, .bool x] => some (.tuple ⟨[.int .i64 (shfI n d m x), .bool (shfB n d m x)]⟩, [])
  | _ => none
theorem specShifted_ok (args : List Value) (v : Value) (l : List Prop) (h : specShifted args = some (v, l)) (_ : allP l) : Pure Tryd.prog J0 48 args v := by
  unfold specShifted at h
  split at h
  · cases h; exact shifted_pure _ _ _ _
  · cases h

noncomputable def tabB2 : Tab := tabAdd 34 specOrder (tabAdd 29 specText (tabAdd 35 specText (tabAdd 42 specMoved (tabAdd 48 specShifted tabB1))))
theorem tabB2_ok : PcOk Tryd.prog J0 tabB2 := tabAdd_ok specROrder_ok (tabAdd_ok specText_ok (tabAdd_ok specRText_ok (tabAdd_ok specMoved_ok (tabAdd_ok specShifted_ok tabB1_ok))))
noncomputable def bB2 : Base := ⟨Tryd.prog, J0, false, tabB2, mtab0, 200⟩
theorem bB2_ok : BaseOk bB2 := ⟨progOk, tabB2_ok, mtab0_ok _ _⟩

def vShift (c r : Int) (p q : Bool) (x y : Int) : Value :=
  .tuple ⟨[vRef (mz (shOk c r p q x y) (movI c x p)) (mz (shOk c r p q x y) (movI r y q)) (shOk c r p q x y && p) (shOk c r p q x y && q), .bool (shOk c r p q x y)]⟩

theorem shift_pure (c r : Int) (p q : Bool) (x y : Int) : Pure Tryd.prog J0 31 [vRef c r p q, vi x, vi y] (vShift c r p q x y) := by
  unfold vShift
  cases hv : validB c r
  · have : shOk c r p q x y = false := by unfold shOk; rw [hv]; rfl
    rw [this]
    exact pure_of bB2_ok 3 [] [true] (l := [(!validB c r) = true]) (by kernel_rfl) (by simp [allP, hv])
  · cases hw : validB (movI c x p) (movI r y q)
    · have : shOk c r p q x y = false := by unfold shOk; rw [hv, hw]; rfl
      rw [this]
      exact pure_of bB2_ok 3 [] [false, true] (l := [(!validB (movI c x p) (movI r y q)) = true, (!validB c r) = false]) (by kernel_rfl) (by simp [allP, hv, hw])
    · have : shOk c r p q x y = true := by unfold shOk; rw [hv, hw]; rfl
      rw [this]
      exact pure_of bB2_ok 3 [] [false, false] (l := [(!validB (movI c x p) (movI r y q)) = false, (!validB c r) = false]) (by kernel_rfl) (by simp [allP, hv, hw])

theorem rshift_pure (c r : Int) (p q : Bool) (x y : Int) : Pure Tryd.prog J0 36 [vRef c r p q, vi x, vi y] (vShift c r p q x y) := by
  unfold vShift
  cases hv : validB c r
  · have : shOk c r p q x y = false := by unfold shOk; rw [hv]; rfl
    rw [this]
    exact pure_of bB2_ok 3 [] [true] (l := [(!validB c r) = true]) (by kernel_rfl) (by simp [allP, hv])
  · have hs := shf_ok (p := p) (q := q) (x := x) (y := y) hv
    have hv' := validB_iff.1 hv
    have e1 := (shf_mov (n := c) (d := x) (most := 256) (fixed := p) (by omega) (by omega) (by omega)).2
    have e2 := (shf_mov (n := r) (d := y) (most := 4096) (fixed := q) (by omega) (by omega) (by omega)).2
    cases hk : shOk c r p q x y
    · rw [hk] at hs
      have hs' : (!shfB c x 256 p || !shfB r y 4096 q) = true := by
        revert hs
        cases shfB c x 256 p <;> cases shfB r y 4096 q <;> simp
      exact pure_of bB2_ok 3 [] [false, true] (l := [(!shfB c x 256 p || !shfB r y 4096 q) = true, (!validB c r) = false]) (by kernel_rfl) ⟨hs', by rw [hv]; rfl, trivial⟩
    · rw [hk] at hs
      simp only [Bool.and_eq_true] at hs
      have hs' : (!shfB c x 256 p || !shfB r y 4096 q) = false := by rw [hs.1, hs.2]; rfl
      have key : Pure Tryd.prog J0 36 [vRef c r p q, vi x, vi y] (.tuple ⟨[vRef (shfI c x 256 p) (shfI r y 4096 q) p q, .bool true]⟩) :=
        pure_of bB2_ok 3 [] [false, false] (l := [(!shfB c x 256 p || !shfB r y 4096 q) = false, (!validB c r) = false]) (by kernel_rfl) ⟨hs', by rw [hv]; rfl, trivial⟩
      rw [e1 hs.1, e2 hs.2] at key
      exact key

def specShift : List Value → Option (Value × List Prop)
  | [.agg ⟨[.int .i64 c, .int .i64 r, .bool p, .bool q]⟩, .int .i64 x, .int .i64 y] =>
    some (.tuple ⟨[vRef (mz (shOk c r p q x y) (movI c x p)) (mz (shOk c r p q x y) (movI r y q)) (shOk c r p q x y && p) (shOk c r p q x y && q), .bool (shOk c r p q x y)]⟩, [])
  | _ => none
theorem specShift_ok (args : List Value) (v : Value) (l : List Prop) (h : specShift args = some (v, l)) (_ : allP l) : Pure Tryd.prog J0 31 args v := by
  unfold specShift at h
  split at h
  · cases h; exact shift_pure _ _ _ _ _ _
  · cases h
theorem specRShift_ok (args : List Value) (v : Value) (l : List Prop) (h : specShift args = some (v, l)) (_ : allP l) : Pure Tryd.prog J0 36 args v := by
  unfold specShift at h
  split at h
  · cases h; exact rshift_pure _ _ _ _ _ _
  · cases h

noncomputable def tabB3 : Tab := tabAdd 31 specShift (tabAdd 36 specShift tabB2)
theorem tabB3_ok : PcOk Tryd.prog J0 tabB3 := tabAdd_ok specShift_ok (tabAdd_ok specRShift_ok tabB2_ok)
noncomputable def bB3 : Base := ⟨Tryd.prog, J0, false, tabB3, mtab0, 200⟩
theorem bB3_ok : BaseOk bB3 := ⟨progOk, tabB3_ok, mtab0_ok _ _⟩

end Go.Proofs.YthclpocignpfhaaDoor
