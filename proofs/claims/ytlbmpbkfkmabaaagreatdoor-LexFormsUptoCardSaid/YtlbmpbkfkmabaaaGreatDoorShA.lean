/-
  Formats' codes, plainly: what a code is, how one is read; a code that is read is its format.
-/
import Derived.Lib.AtoiAll
import Derived.Lib.ItoaNum
import Derived.Lib.Bytealg
import Derived.Lib.Strings
namespace Go.Proofs.YtlbmpbkfkmabaaaGreatDoor.Sh
open Go Go.Proofs

def least (k : Int) : Int := if k = 5 then 1 else 0
def most (k : Int) : Int := if k = 5 then 3 else 30
def commas (k : Int) : Bool := decide (k = 2) || decide (k = 4)

/-- A format that may be. -/
def valid (k p : Int) (g : Bool) (w : Int) : Bool :=
  decide (1 ≤ k) && decide (k ≤ 5) && decide (0 ≤ w) && decide (w ≤ 64) && decide (least k ≤ p) && decide (p ≤ most k) && (commas k || !g)

def letter (k : Int) : UInt8 := if k = 1 then 103 else if k = 2 then 102 else if k = 3 then 115 else if k = 4 then 112 else 113

/-- A format's code. -/
def code (k p : Int) (g : Bool) (w : Int) : List UInt8 :=
  letter k :: (Lib.decDigits p.toNat ++ (if g then [44] else []) ++ (if w = 0 then [] else 58 :: Lib.decDigits w.toNat))

def codeS (k p : Int) (g : Bool) (w : Int) : List UInt8 := if valid k p g w then code k p g w else []
def codeE (k p : Int) (g : Bool) (w : Int) : Int := if valid k p g w then 0 else 1

/-! ### Reading -/

def kindOf (c : UInt8) : Int := if c = 103 then 1 else if c = 102 then 2 else if c = 115 then 3 else if c = 112 then 4 else if c = 113 then 5 else 0

/-- What stands ahead of the colon; behind it. -/
def ahead (t : List UInt8) : List UInt8 := if 0 ≤ Lib.indexByte t 58 then t.take (Lib.indexByte t 58).toNat else t
def behind (t : List UInt8) : List UInt8 := if 0 ≤ Lib.indexByte t 58 then t.drop ((Lib.indexByte t 58).toNat + 1) else []

def num (t : List UInt8) : Int := match Lib.atoiAll t with
  | .ok v => v
  | .syntax => 0
  | .range => Lib.atoiSat t

/-- A text without its last comma. -/
def short (t : List UInt8) : List UInt8 := if Lib.hasSuffix t [44] then t.take (t.length - 1) else t

structure Fm where
  k : Int
  p : Int
  g : Bool
  w : Int
deriving DecidableEq

def raw (c : UInt8) (r : List UInt8) : Fm := ⟨kindOf c, num (short (ahead r)), !decide (short (ahead r) = ahead r), num (behind r)⟩

/-- What a text is read as. -/
def readF : List UInt8 → Option Fm
  | [] => none
  | c :: r => match raw c r with
    | ⟨k, p, g, w⟩ => if valid k p g w = true ∧ code k p g w = c :: r then some ⟨k, p, g, w⟩ else none

def d2 (n : Nat) : List UInt8 := if n < 10 then [UInt8.ofNat (48 + n)] else [UInt8.ofNat (48 + n / 10), UInt8.ofNat (48 + n % 10)]

theorem d2_eq {n : Nat} (h : n < 100) : Lib.decDigits n = d2 n := by
  unfold d2
  by_cases h1 : n < 10
  · rw [Lib.decDigits]; simp [h1]
  · rw [Lib.decDigits]
    rw [dif_neg h1, if_neg h1, Lib.decDigits, dif_pos (by omega)]
    rfl

def tail (p w : Nat) (g : Bool) : List UInt8 := d2 p ++ (if g then [44] else []) ++ (if w = 0 then [] else 58 :: d2 w)

def tailOk (p w : Nat) (g : Bool) : Bool :=
  decide (num (short (ahead (tail p w g))) = (p : Int)) && ((!decide (short (ahead (tail p w g)) = ahead (tail p w g))) == g) && decide (num (behind (tail p w g)) = (w : Int))

theorem tails : ((List.range 31).all fun p => (List.range 65).all fun w => tailOk p w true && tailOk p w false) = true := by decide +kernel

theorem tail_ok {p w : Nat} (hp : p < 31) (hw : w < 65) (g : Bool) : tailOk p w g = true := by
  have h := List.all_eq_true.1 (List.all_eq_true.1 tails p (List.mem_range.2 hp)) w (List.mem_range.2 hw)
  rw [Bool.and_eq_true] at h
  cases g
  · exact h.2
  · exact h.1

theorem kind_letter {k : Int} (h1 : 1 ≤ k) (h2 : k ≤ 5) : kindOf (letter k) = k := by
  have : k = 1 ∨ k = 2 ∨ k = 3 ∨ k = 4 ∨ k = 5 := by omega
  rcases this with rfl | rfl | rfl | rfl | rfl <;> decide

/-- A code is read as its format. -/
theorem read_code {k p w : Int} {g : Bool} (h : valid k p g w = true) : readF (code k p g w) = some ⟨k, p, g, w⟩ := by
  have h0 := h
  unfold valid at h
  simp only [Bool.and_eq_true, decide_eq_true_eq] at h
  obtain ⟨⟨⟨⟨⟨⟨h1, h2⟩, h3⟩, h4⟩, h5⟩, h6⟩, h7⟩ := h
  have hp0 : 0 ≤ p := by unfold least at h5; split at h5 <;> omega
  have hp1 : p ≤ 30 := by unfold most at h6; split at h6 <;> omega
  obtain ⟨pn, rfl⟩ := Int.eq_ofNat_of_zero_le hp0
  obtain ⟨wn, rfl⟩ := Int.eq_ofNat_of_zero_le h3
  have ht := tail_ok (p := pn) (w := wn) (by omega) (by omega) g
  unfold tailOk at ht
  simp only [Bool.and_eq_true, decide_eq_true_eq, beq_iff_eq] at ht
  obtain ⟨⟨t1, t2⟩, t3⟩ := ht
  have e : code k pn g wn = letter k :: tail pn wn g := by
    unfold code tail
    rw [Int.toNat_natCast, Int.toNat_natCast, d2_eq (by omega), d2_eq (by omega)]
    simp only [Int.natCast_eq_zero]
  have hr : raw (letter k) (tail pn wn g) = ⟨k, pn, g, wn⟩ := by
    unfold raw
    rw [t1, t2, t3, kind_letter h1 h2]
  rw [e]
  simp only [readF, hr]
  rw [if_pos ⟨h0, e⟩]

theorem readF_some {t : List UInt8} {f : Fm} (h : readF t = some f) : valid f.k f.p f.g f.w = true ∧ code f.k f.p f.g f.w = t := by
  unfold readF at h
  split at h
  · cases h
  · split at h
    split at h
    · rename_i hc
      cases h
      exact hc
    · cases h

end Go.Proofs.YtlbmpbkfkmabaaaGreatDoor.Sh
