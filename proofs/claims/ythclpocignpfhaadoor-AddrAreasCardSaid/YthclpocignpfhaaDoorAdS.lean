/-
  Layer 10 (addr): what its functions compute, as plain functions on whole numbers and bytes. No program stands here.
-/
import GoSem.ClaimJoined
import Derived.Lib.ItoaNum
namespace Go.Proofs.YthclpocignpfhaaDoor.AdS
open Go

/-- Is it a cell? -/
def validB (c r : Int) : Bool := decide (c ≥ 1) && decide (c ≤ 256) && decide (r ≥ 1) && decide (r ≤ 4096)

/-- Is it an area? -/
def areaB (c r d s : Int) : Bool := validB c r && validB d s && decide (c ≤ d) && decide (r ≤ s)

def inB (c r d s x y : Int) : Bool := areaB c r d s && decide (x ≥ c) && decide (x ≤ d) && decide (y ≥ r) && decide (y ≤ s)

/-- How two whole numbers stand. -/
def cmpI (x y : Int) : Int := if x < y then -1 else if y < x then 1 else 0

/-- How two cells stand. -/
def orderI (c r d s : Int) : Int := if cmpI r s ≠ 0 then cmpI r s else cmpI c d

def maxG (x y : Int) : Int := if y > x then y else x
def minG (x y : Int) : Int := if y < x then y else x

/-- Have two areas something in common? -/
def meetB (c r d s e f g h : Int) : Bool := areaB c r d s && areaB e f g h && areaB (maxG c e) (maxG r f) (minG d g) (minG s h)

/-- v, if there is something; else nought. -/
def mz (b : Bool) (v : Int) : Int := if b then v else 0

def sizeI (c r d s : Int) : Int := if areaB c r d s then (d - c + 1) * (s - r + 1) else 0

theorem validB_iff {c r : Int} : validB c r = true ↔ 1 ≤ c ∧ c ≤ 256 ∧ 1 ≤ r ∧ r ≤ 4096 := by
  simp [validB, and_assoc]

theorem areaB_iff {c r d s : Int} : areaB c r d s = true ↔ validB c r = true ∧ validB d s = true ∧ c ≤ d ∧ r ≤ s := by
  simp [areaB, and_assoc]

theorem inB_iff {c r d s x y : Int} : inB c r d s x y = true ↔ areaB c r d s = true ∧ c ≤ x ∧ x ≤ d ∧ r ≤ y ∧ y ≤ s := by
  simp [inB, and_assoc]

theorem maxG_comm (x y : Int) : maxG x y = maxG y x := by unfold maxG; split <;> split <;> omega
theorem minG_comm (x y : Int) : minG x y = minG y x := by unfold minG; split <;> split <;> omega

theorem meetB_comm (c r d s e f g h : Int) : meetB c r d s e f g h = meetB e f g h c r d s := by
  unfold meetB
  rw [maxG_comm c e, maxG_comm r f, minG_comm d g, minG_comm s h, Bool.and_comm (areaB c r d s)]

/-- A cell is in what is in common just if it is in both. -/
theorem meet_in (c r d s e f g h x y : Int) : (meetB c r d s e f g h && inB (mz (meetB c r d s e f g h) (maxG c e)) (mz (meetB c r d s e f g h) (maxG r f)) (mz (meetB c r d s e f g h) (minG d g)) (mz (meetB c r d s e f g h) (minG s h)) x y) = (inB c r d s x y && inB e f g h x y) := by
  rw [Bool.eq_iff_iff]
  simp only [Bool.and_eq_true]
  have hmax : ∀ a b : Int, maxG a b = if b > a then b else a := fun _ _ => rfl
  have hmin : ∀ a b : Int, minG a b = if b < a then b else a := fun _ _ => rfl
  constructor
  · rintro ⟨hm, hi⟩
    rw [hm] at hi
    simp only [mz, if_true] at hi
    have h1 := inB_iff.1 hi
    unfold meetB at hm
    simp only [Bool.and_eq_true] at hm
    rw [inB_iff, inB_iff]
    obtain ⟨⟨a1, a2⟩, a3⟩ := hm
    obtain ⟨b1, b2, b3, b4, b5⟩ := h1
    simp only [hmax, hmin] at b2 b3 b4 b5
    refine ⟨⟨a1, ?_, ?_, ?_, ?_⟩, a2, ?_, ?_, ?_, ?_⟩ <;> (split at b2 <;> split at b3 <;> split at b4 <;> split at b5 <;> omega)
  · rintro ⟨h1, h2⟩
    have i1 := inB_iff.1 h1
    have i2 := inB_iff.1 h2
    have v1 := areaB_iff.1 i1.1
    have v2 := areaB_iff.1 i2.1
    have w1 := validB_iff.1 v1.1
    have w2 := validB_iff.1 v1.2.1
    have w3 := validB_iff.1 v2.1
    have w4 := validB_iff.1 v2.2.1
    have m1 : c ≤ maxG c e ∧ e ≤ maxG c e ∧ maxG c e ≤ x ∧ maxG c e ≤ 256 := by rw [hmax]; split <;> omega
    have m2 : r ≤ maxG r f ∧ f ≤ maxG r f ∧ maxG r f ≤ y ∧ maxG r f ≤ 4096 := by rw [hmax]; split <;> omega
    have m3 : minG d g ≤ d ∧ minG d g ≤ g ∧ x ≤ minG d g ∧ 1 ≤ minG d g := by rw [hmin]; split <;> omega
    have m4 : minG s h ≤ s ∧ minG s h ≤ h ∧ y ≤ minG s h ∧ 1 ≤ minG s h := by rw [hmin]; split <;> omega
    have hA : areaB (maxG c e) (maxG r f) (minG d g) (minG s h) = true :=
      areaB_iff.2 ⟨validB_iff.2 ⟨by omega, by omega, by omega, by omega⟩, validB_iff.2 ⟨by omega, by omega, by omega, by omega⟩, by omega, by omega⟩
    have hm : meetB c r d s e f g h = true := by
      unfold meetB
      rw [i1.1, i2.1, hA]
      rfl
    refine ⟨hm, ?_⟩
    rw [hm]
    simp only [mz, if_true]
    exact inB_iff.2 ⟨hA, by omega, by omega, by omega, by omega⟩

theorem wrapS {n : Int} (h0 : -9223372036854775808 ≤ n) (h1 : n < 9223372036854775808) : IntKind.i64.wrap n = n := by
  unfold IntKind.wrap
  simp [IntKind.bits, IntKind.signed]
  split <;> omega

theorem wrap32 {n : Int} (h0 : -2147483648 ≤ n) (h1 : n < 2147483648) : IntKind.i32.wrap n = n := by
  unfold IntKind.wrap
  simp [IntKind.bits, IntKind.signed]
  split <;> omega

/-! Texts. -/

def eqL : List UInt8 → List UInt8 → Bool
  | [], [] => true
  | a :: l, b :: r => Nat.beq a.toNat b.toNat && eqL l r
  | _, _ => false

theorem eqL_eq : ∀ {l r : List UInt8}, eqL l r = true → l = r
  | [], [], _ => rfl
  | a :: l, b :: r, h => by
    simp only [eqL, Bool.and_eq_true] at h
    have h1 := Nat.eq_of_beq_eq_true h.1
    rw [UInt8.toNat_inj.1 h1, eqL_eq h.2]
  | [], _ :: _, h => by simp [eqL] at h
  | _ :: _, [], h => by simp [eqL] at h

/-- A column's letters. -/
def letL (n : Nat) : List UInt8 := if n ≤ 26 then [UInt8.ofNat (64 + n)] else [UInt8.ofNat (64 + (n - 1) / 26), UInt8.ofNat (65 + (n - 1) % 26)]

theorem letL_len (n : Nat) : 1 ≤ (letL n).length ∧ (letL n).length ≤ 2 := by unfold letL; split <;> simp

/-- A row's digits. -/
def digL (n : Int) : List UInt8 := if n < 1 then [] else Lib.decDigits n.toNat

theorem dec_len : ∀ (k u : Nat), u ≤ k → (Lib.decDigits u).length ≤ u + 1 := by
  intro k
  induction k with
  | zero => intro u h; obtain rfl : u = 0 := by omega
            rw [Lib.decDigits, dif_pos (by omega)]; simp
  | succ k ih =>
    intro u h
    rw [Lib.decDigits]
    split
    · simp
    · have := ih (u / 10) (by omega)
      simp
      omega

theorem digL_len (n : Int) (h : n ≤ 100000) : (digL n).length ≤ 100001 := by
  unfold digL
  split
  · simp
  · have := dec_len n.toNat n.toNat (Nat.le_refl _)
    omega

theorem digL_step {n : Int} (h0 : ¬ n < 1) : digL n = digL (n / 10) ++ [UInt8.ofNat (48 + (n % 10).toNat)] := by
  unfold digL
  rw [if_neg h0, Lib.decDigits]
  split
  · rename_i h
    rw [if_pos (by omega)]
    have : n.toNat = (n % 10).toNat := by omega
    rw [this]; simp
  · rename_i h
    rw [if_neg (by omega)]
    have e1 : (n / 10).toNat = n.toNat / 10 := by omega
    have e2 : (n % 10).toNat = n.toNat % 10 := by omega
    rw [e1, e2]

/-- A cell's text. -/
def textL (c r : Int) (p q : Bool) : List UInt8 := if p then (if q then [36] ++ letL c.toNat ++ [36] ++ Lib.decDigits r.toNat else [36] ++ letL c.toNat ++ Lib.decDigits r.toNat) else (if q then letL c.toNat ++ [36] ++ Lib.decDigits r.toNat else letL c.toNat ++ Lib.decDigits r.toNat)

def textS (c r : Int) (p q : Bool) : List UInt8 := if validB c r then textL c r p q else []
def textE (c r : Int) : Int := if validB c r then 0 else 20

/-- A column or row, so much greater. -/
def movI (n d : Int) (fixed : Bool) : Int := if fixed then n else if d > 1048576 || d < -1048576 then -1 else IntKind.i64.wrap (n + d)

def shOk (c r : Int) (p q : Bool) (x y : Int) : Bool := validB c r && validB (movI c x p) (movI r y q)

/-- The reference's. -/
def shfI (n d most : Int) (fixed : Bool) : Int := if fixed then n else if d < IntKind.i64.wrap (0 - n) || d > most then 0 else IntKind.i64.wrap (n + d)
def shfB (n d most : Int) (fixed : Bool) : Bool := if fixed then true else if d < IntKind.i64.wrap (0 - n) || d > most then false else decide (IntKind.i64.wrap (n + d) ≥ 1) && decide (IntKind.i64.wrap (n + d) ≤ most)

theorem shf_mov {n d most : Int} {fixed : Bool} (h0 : 1 ≤ n) (h1 : n ≤ most) (h2 : most ≤ 4096) : shfB n d most fixed = (decide (movI n d fixed ≥ 1) && decide (movI n d fixed ≤ most)) ∧ (shfB n d most fixed = true → shfI n d most fixed = movI n d fixed) := by
  unfold shfB shfI movI
  cases fixed with
  | true => simp [h0, h1]
  | false =>
    simp only [Bool.false_eq_true, if_false, Bool.or_eq_true, decide_eq_true_eq]
    rw [wrapS (n := 0 - n) (by omega) (by omega)]
    by_cases ha : d < 0 - n ∨ d > most
    · rw [if_pos ha, if_pos ha]
      refine ⟨?_, fun h => by cases h⟩
      by_cases hb : d > 1048576 ∨ d < -1048576
      · rw [if_pos hb]; simp
      · rw [if_neg hb, wrapS (by omega) (by omega)]
        symm
        simp only [Bool.and_eq_false_iff, decide_eq_false_iff_not]
        omega
    · rw [if_neg ha, if_neg ha, if_neg (by omega)]
      exact ⟨rfl, fun _ => rfl⟩

theorem shf_ok {c r : Int} {p q : Bool} {x y : Int} (hv : validB c r = true) : (shfB c x 256 p && shfB r y 4096 q) = shOk c r p q x y := by
  have h := validB_iff.1 hv
  obtain ⟨e1, _⟩ := shf_mov (n := c) (d := x) (most := 256) (fixed := p) (by omega) (by omega) (by omega)
  obtain ⟨e2, _⟩ := shf_mov (n := r) (d := y) (most := 4096) (fixed := q) (by omega) (by omega) (by omega)
  unfold shOk
  rw [e1, e2, hv]
  simp [validB, Bool.and_assoc]

end Go.Proofs.YthclpocignpfhaaDoor.AdS
