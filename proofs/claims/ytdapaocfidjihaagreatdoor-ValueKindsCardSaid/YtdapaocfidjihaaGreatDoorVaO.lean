/-
  Layer 14 (values): Same, in the program and in the reference.
-/
import Derived.Test.YtdapaocfidjihaaGreatDoorVaL
namespace Go.Proofs.YtdapaocfidjihaaGreatDoor
open Go Go.RowKit Ev VaS

/-- The same, by the document. -/
def rsameV (v w : Val) : Bool :=
  if v.k ≠ w.k then false
  else if v.k = 1 then decide (oneX v.x = oneX w.x)
  else if v.k = 2 then v.s == w.s
  else if v.k = 3 then v.b == w.b
  else if v.k = 4 then v.f == w.f
  else true

theorem vsame_pure (v w : Val) (hv : Okv v) (hw : Okv w) : Pure Tryz.prog J0 24 [vv v, vv w] (.bool (orderV v w == 0)) :=
  pure_of bV8_ok 5 [] [] (l := [Okv v, Okv w]) (by kernel_rfl) ⟨hv, hw, trivial⟩

theorem rsame_pure (v w : Val) (hv : Okv v) (hw : Okv w) : Pure Tryz.prog J0 25 [vv v, vv w] (.bool (rsameV v w)) := by
  unfold rsameV
  by_cases h0 : v.k = w.k
  · rw [if_neg (fun h => h h0)]
    have e0 : (v.k != w.k) = false := by rw [h0]; simp
    by_cases h1 : v.k = 1
    · rw [if_pos h1]
      have := pure_of bV8_ok 5 [] [false, true] (f := 25) (args := [vv v, vv w]) (v := .bool (Int.ofNat (oneX v.x) == Int.ofNat (oneX w.x))) (l := [inU w.x, inU v.x, (v.k == 1) = true, (v.k != w.k) = false]) (by kernel_rfl) ⟨hw.x, hv.x, by rw [h1]; rfl, e0, trivial⟩
      have e : (Int.ofNat (oneX v.x) == Int.ofNat (oneX w.x)) = decide (oneX v.x = oneX w.x) := by
        by_cases c : oneX v.x = oneX w.x
        · rw [c]; simp
        · rw [decide_eq_false c]; exact beq_eq_false_iff_ne.2 (fun h => c (Int.ofNat.inj h))
      rw [e] at this
      exact this
    · have e1 : (v.k == 1) = false := by simp [h1]
      rw [if_neg h1]
      by_cases h2 : v.k = 2
      · rw [if_pos h2]
        exact pure_of bV8_ok 5 [] [false, false, true] (l := [(v.k == 2) = true, (v.k == 1) = false, (v.k != w.k) = false]) (by kernel_rfl) ⟨by rw [h2]; rfl, e1, e0, trivial⟩
      · have e2 : (v.k == 2) = false := by simp [h2]
        rw [if_neg h2]
        by_cases h3 : v.k = 3
        · rw [if_pos h3]
          exact pure_of bV8_ok 5 [] [false, false, false, true] (l := [(v.k == 3) = true, (v.k == 2) = false, (v.k == 1) = false, (v.k != w.k) = false]) (by kernel_rfl) ⟨by rw [h3]; rfl, e2, e1, e0, trivial⟩
        · have e3 : (v.k == 3) = false := by simp [h3]
          rw [if_neg h3]
          by_cases h4 : v.k = 4
          · rw [if_pos h4]
            exact pure_of bV8_ok 5 [] [false, false, false, false, true] (l := [(v.k == 4) = true, (v.k == 3) = false, (v.k == 2) = false, (v.k == 1) = false, (v.k != w.k) = false]) (by kernel_rfl) ⟨by rw [h4]; rfl, e3, e2, e1, e0, trivial⟩
          · rw [if_neg h4]
            exact pure_of bV8_ok 5 [] [false, false, false, false, false] (l := [(v.k == 4) = false, (v.k == 3) = false, (v.k == 2) = false, (v.k == 1) = false, (v.k != w.k) = false]) (by kernel_rfl) ⟨by simp [h4], e3, e2, e1, e0, trivial⟩
  · rw [if_pos h0]
    exact pure_of bV8_ok 5 [] [true] (l := [(v.k != w.k) = true]) (by kernel_rfl) ⟨by simp [h0], trivial⟩

theorem key_inj {x y : Nat} (hx : inU x) (hy : inU y) : keyI x = keyI y ↔ oneX x = oneX y := by
  have mx := mod_lt63 x
  have my := mod_lt63 y
  have nx : nanB x = false → x % p63 ≤ 9218868437227405312 := fun h => by
    have := of_decide_eq_false h
    omega
  have ny : nanB y = false → y % p63 ≤ 9218868437227405312 := fun h => by
    have := of_decide_eq_false h
    omega
  unfold keyI oneX
  have ex : x = (if p63 ≤ x then p63 else 0) + x % p63 := by unfold p63 at *; split <;> omega
  have ey : y = (if p63 ≤ y then p63 else 0) + y % p63 := by unfold p63 at *; split <;> omega
  cases h1 : nanB x <;> cases h2 : nanB y <;> simp only [Bool.false_eq_true, if_false, if_true]
  · have hp : p63 = 9223372036854775808 := rfl
    have d1 : (p63 ≤ x ∧ x = p63 + x % p63) ∨ (¬ p63 ≤ x ∧ x = x % p63) := by
      by_cases c : p63 ≤ x
      · rw [if_pos c] at ex; exact .inl ⟨c, ex⟩
      · rw [if_neg c] at ex; exact .inr ⟨c, by omega⟩
    have d2 : (p63 ≤ y ∧ y = p63 + y % p63) ∨ (¬ p63 ≤ y ∧ y = y % p63) := by
      by_cases c : p63 ≤ y
      · rw [if_pos c] at ey; exact .inl ⟨c, ey⟩
      · rw [if_neg c] at ey; exact .inr ⟨c, by omega⟩
    rcases d1 with ⟨c1, q1⟩ | ⟨c1, q1⟩ <;> rcases d2 with ⟨c2, q2⟩ | ⟨c2, q2⟩
    · rw [if_pos c1, if_pos c2]; omega
    · rw [if_pos c1, if_neg c2]; omega
    · rw [if_neg c1, if_pos c2]; omega
    · rw [if_neg c1, if_neg c2]; omega
  · have := nx h1
    constructor
    · intro h
      split at h <;> omega
    · intro h
      exfalso
      have e : nanB x = true := by rw [h]; decide
      rw [h1] at e
      cases e
  · have := ny h2
    constructor
    · intro h
      split at h <;> omega
    · intro h
      exfalso
      have e : nanB y = true := by rw [← h]; decide
      rw [h2] at e
      cases e

theorem bytes_zero : ∀ l m : List UInt8, Lib.compareBytes l m = 0 ↔ l = m
  | [], [] => by simp [Lib.compareBytes]
  | [], _ :: _ => by simp [Lib.compareBytes]
  | _ :: _, [] => by simp [Lib.compareBytes]
  | a :: l, b :: m => by
    rw [bytes_cons]
    by_cases x1 : a.toNat < b.toNat
    · rw [if_pos x1]
      constructor
      · intro h; cases h
      · intro h; cases h; omega
    · rw [if_neg x1]
      by_cases x2 : b.toNat < a.toNat
      · rw [if_pos x2]
        constructor
        · intro h; cases h
        · intro h; cases h; omega
      · rw [if_neg x2, bytes_zero l m]
        have e : a = b := UInt8.toNat_inj.1 (by omega)
        rw [e]
        simp

/-- THE LAW, in plain words: the program's Same is the document's. -/
theorem same_law (v w : Val) (hv : Okv v) (hw : Okv w) : (orderV v w == 0) = rsameV v w := by
  have cz : ∀ x y : Int, cmpI x y = 0 ↔ x = y := fun x y => by
    rcases cmpI_range x y with ⟨h, h'⟩ | ⟨h, h'⟩ | ⟨h, h'⟩ <;> omega
  have key : ∀ {n : Int} {P : Prop} [Decidable P], (n = 0 ↔ P) → (n == 0) = decide P := fun {n P} _ h => by
    by_cases c : P
    · rw [decide_eq_true c, h.2 c]; rfl
    · rw [decide_eq_false c]; exact beq_eq_false_iff_ne.2 (fun e => c (h.1 e))
  unfold orderV rsameV
  by_cases h0 : v.k = w.k
  · rw [if_neg (show ¬ cmpI v.k w.k ≠ 0 from fun h => h ((cz _ _).2 h0)), if_neg (show ¬ v.k ≠ w.k from fun h => h h0)]
    by_cases h1 : v.k = 1
    · rw [if_pos h1, if_pos h1]
      exact key ((cz _ _).trans (key_inj hv.x hw.x))
    · rw [if_neg h1, if_neg h1]
      by_cases h2 : v.k = 2
      · rw [if_pos h2, if_pos h2, key (bytes_zero _ _)]
        by_cases c : v.s = w.s
        · rw [c]; simp
        · rw [decide_eq_false c]; exact (beq_eq_false_iff_ne.2 c).symm
      · rw [if_neg h2, if_neg h2]
        by_cases h3 : v.k = 3
        · rw [if_pos h3, if_pos h3]
          cases v.b <;> cases w.b <;> decide
        · rw [if_neg h3, if_neg h3]
          by_cases h4 : v.k = 4
          · rw [if_pos h4, if_pos h4, key (cz _ _)]
            by_cases c : v.f = w.f
            · rw [c]; simp
            · rw [decide_eq_false c]; exact (beq_eq_false_iff_ne.2 c).symm
          · rw [if_neg h4, if_neg h4]; rfl
  · rw [if_pos (show cmpI v.k w.k ≠ 0 from fun h => h0 ((cz _ _).1 h)), if_pos (show v.k ≠ w.k from h0)]
    exact beq_eq_false_iff_ne.2 (fun h => h0 ((cz _ _).1 h))

end Go.Proofs.YtdapaocfidjihaaGreatDoor
