/-
  Layer 10 (addr): what its functions compute, as plain functions on whole numbers and bytes. No program stands here.
-/
import GoSem.ClaimJoined
namespace Go.Proofs.YthclpocignpfhaaDoor.AdS
open Go

/-- Is it a cell? -/
def validB (c r : Int) : Bool := decide (c ≥ 1) && decide (c ≤ 256) && decide (r ≥ 1) && decide (r ≤ 4096)

/-- Is it an area? -/
def areaB (c r d s : Int) : Bool := validB c r && validB d s && decide (c ≤ d) && decide (r ≤ s)

def inB (c r d s x y : Int) : Bool := areaB c r d s && decide (x ≥ c) && decide (x ≤ d) && decide (y ≥ r) && decide (y ≤ s)

/-- How two whole numbers stand. -/
def cmpI (x y : Int) : Int := if x < y then -1 else if y < x then 1 else 0

/-- How two cells stand. -/
def orderI (c r d s : Int) : Int := if cmpI r s ≠ 0 then cmpI r s else cmpI c d

def maxG (x y : Int) : Int := if y > x then y else x
def minG (x y : Int) : Int := if y < x then y else x

/-- Have two areas something in common? -/
def meetB (c r d s e f g h : Int) : Bool := areaB c r d s && areaB e f g h && areaB (maxG c e) (maxG r f) (minG d g) (minG s h)

/-- v, if there is something; else nought. -/
def mz (b : Bool) (v : Int) : Int := if b then v else 0

def sizeI (c r d s : Int) : Int := if areaB c r d s then (d - c + 1) * (s - r + 1) else 0

theorem validB_iff {c r : Int} : validB c r = true ↔ 1 ≤ c ∧ c ≤ 256 ∧ 1 ≤ r ∧ r ≤ 4096 := by
  simp [validB, and_assoc]

theorem areaB_iff {c r d s : Int} : areaB c r d s = true ↔ validB c r = true ∧ validB d s = true ∧ c ≤ d ∧ r ≤ s := by
  simp [areaB, and_assoc]

theorem inB_iff {c r d s x y : Int} : inB c r d s x y = true ↔ areaB c r d s = true ∧ c ≤ x ∧ x ≤ d ∧ r ≤ y ∧ y ≤ s := by
  simp [inB, and_assoc]

theorem maxG_comm (x y : Int) : maxG x y = maxG y x := by unfold maxG; split <;> split <;> omega
theorem minG_comm (x y : Int) : minG x y = minG y x := by unfold minG; split <;> split <;> omega

theorem meetB_comm (c r d s e f g h : Int) : meetB c r d s e f g h = meetB e f g h c r d s := by
  unfold meetB
  rw [maxG_comm c e, maxG_comm r f, minG_comm d g, minG_comm s h, Bool.and_comm (areaB c r d s)]

/-- A cell is in what is in common just if it is in both. -/
theorem meet_in (c r d s e f g h x y : Int) : (meetB c r d s e f g h && inB (mz (meetB c r d s e f g h) (maxG c e)) (mz (meetB c r d s e f g h) (maxG r f)) (mz (meetB c r d s e f g h) (minG d g)) (mz (meetB c r d s e f g h) (minG s h)) x y) = (inB c r d s x y && inB e f g h x y) := by
  rw [Bool.eq_iff_iff]
  simp only [Bool.and_eq_true]
  have hmax : ∀ a b : Int, maxG a b = if b > a then b else a := fun _ _ => rfl
  have hmin : ∀ a b : Int, minG a b = if b < a then b else a := fun _ _ => rfl
  constructor
  · rintro ⟨hm, hi⟩
    rw [hm] at hi
    simp only [mz, if_true] at hi
    have h1 := inB_iff.1 hi
    unfold meetB at hm
    simp only [Bool.and_eq_true] at hm
    rw [inB_iff, inB_iff]
    obtain ⟨⟨a1, a2⟩, a3⟩ := hm
    obtain ⟨b1, b2, b3, b4, b5⟩ := h1
    simp only [hmax, hmin] at b2 b3 b4 b5
    refine ⟨⟨a1, ?_, ?_, ?_, ?_⟩, a2, ?_, ?_, ?_, ?_⟩ <;> (split at b2 <;> split at b3 <;> split at b4 <;> split at b5 <;> omega)
  · rintro ⟨h1, h2⟩
    have i1 := inB_iff.1 h1
    have i2 := inB_iff.1 h2
    have v1 := areaB_iff.1 i1.1
    have v2 := areaB_iff.1 i2.1
    have w1 := validB_iff.1 v1.1
    have w2 := validB_iff.1 v1.2.1
    have w3 := validB_iff.1 v2.1
    have w4 := validB_iff.1 v2.2.1
    have m1 : c ≤ maxG c e ∧ e ≤ maxG c e ∧ maxG c e ≤ x ∧ maxG c e ≤ 256 := by rw [hmax]; split <;> omega
    have m2 : r ≤ maxG r f ∧ f ≤ maxG r f ∧ maxG r f ≤ y ∧ maxG r f ≤ 4096 := by rw [hmax]; split <;> omega
    have m3 : minG d g ≤ d ∧ minG d g ≤ g ∧ x ≤ minG d g ∧ 1 ≤ minG d g := by rw [hmin]; split <;> omega
    have m4 : minG s h ≤ s ∧ minG s h ≤ h ∧ y ≤ minG s h ∧ 1 ≤ minG s h := by rw [hmin]; split <;> omega
    have hA : areaB (maxG c e) (maxG r f) (minG d g) (minG s h) = true :=
      areaB_iff.2 ⟨validB_iff.2 ⟨by omega, by omega, by omega, by omega⟩, validB_iff.2 ⟨by omega, by omega, by omega, by omega⟩, by omega, by omega⟩
    have hm : meetB c r d s e f g h = true := by
      unfold meetB
      rw [i1.1, i2.1, hA]
      rfl
    refine ⟨hm, ?_⟩
    rw [hm]
    simp only [mz, if_true]
    exact inB_iff.2 ⟨hA, by omega, by omega, by omega, by omega⟩

theorem wrapS {n : Int} (h0 : -9223372036854775808 ≤ n) (h1 : n < 9223372036854775808) : IntKind.i64.wrap n = n := by
  unfold IntKind.wrap
  simp [IntKind.bits, IntKind.signed]
  split <;> omega

end Go.Proofs.YthclpocignpfhaaDoor.AdS
