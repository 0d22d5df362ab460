/-
  Layer 14 (values): what its comparisons compute, as plain functions. No program stands here.
-/
import GoSem.ClaimJoined
import Derived.Lib.Bytealg
namespace Go.Proofs.YtaopinmjgjpiiaaGreatDoor.VaS
open Go

/-! Floats by their bits. -/

def p63 : Nat := 9223372036854775808

def nanB (x : Nat) : Bool := decide (9218868437227405312 < x % p63)

/-- Where a number stands: the NaN last. -/
def keyI (x : Nat) : Int := if nanB x then 9223372036854775807 else if p63 ≤ x then -((x % p63 : Nat) : Int) - 1 else ((x % p63 : Nat) : Int)

def oneX (x : Nat) : Nat := if nanB x then 9221120237041090560 else x

/-- What a word's number is, but for the scale. -/
def sval (x : Nat) : Int := if p63 ≤ x then -((x % p63 : Nat) : Int) else ((x % p63 : Nat) : Int)

/-- How two stand as numbers. -/
def ordF (x y : Nat) : Option Ordering := if nanB x || nanB y then none else some (compare (sval x) (sval y))

/-- What a rung is worth, in units of the last place of the small ones. -/
def mval (r : Nat) : Nat := if r < 4503599627370496 then r else (4503599627370496 + r % 4503599627370496) * 2 ^ (r / 4503599627370496 - 1)

theorem mval_succ (r : Nat) : mval r < mval (r + 1) := by
  unfold mval
  by_cases h1 : r + 1 < 4503599627370496
  · rw [if_pos h1, if_pos (by omega)]; omega
  · by_cases h2 : r < 4503599627370496
    · have e : r = 4503599627370495 := by omega
      subst e
      decide
    · rw [if_neg h2, if_neg h1]
      generalize hq : r / 4503599627370496 = q
      generalize hm : r % 4503599627370496 = m
      have hr : r = 4503599627370496 * q + m := by rw [← hq, ← hm]; exact (Nat.div_add_mod r _).symm
      have hml : m < 4503599627370496 := by rw [← hm]; exact Nat.mod_lt _ (by decide)
      have hq1 : 1 ≤ q := by omega
      by_cases h3 : m + 1 < 4503599627370496
      · have e1 : (r + 1) / 4503599627370496 = q := by omega
        have e2 : (r + 1) % 4503599627370496 = m + 1 := by omega
        rw [e1, e2]
        exact Nat.mul_lt_mul_of_pos_right (by omega) (Nat.two_pow_pos _)
      · have e1 : (r + 1) / 4503599627370496 = q + 1 := by omega
        have e2 : (r + 1) % 4503599627370496 = 0 := by omega
        rw [e1, e2, show q + 1 - 1 = (q - 1) + 1 by omega, Nat.pow_succ, show m = 4503599627370495 by omega]
        have := Nat.two_pow_pos (q - 1)
        omega

theorem mval_lt {a b : Nat} (h : a < b) : mval a < mval b := by
  induction b with
  | zero => omega
  | succ b ih =>
    rcases Nat.lt_or_ge a b with h' | h'
    · exact Nat.lt_trans (ih h') (mval_succ b)
    · have : a = b := by omega
      subst this
      exact mval_succ a

theorem mval_lt_iff {a b : Nat} : mval a < mval b ↔ a < b := by
  constructor
  · intro h
    rcases Nat.lt_trichotomy a b with h' | h' | h'
    · exact h'
    · subst h'; omega
    · have := mval_lt h'; omega
  · exact mval_lt

def sg (neg : Bool) (m : Nat) : Int := if neg then -(m : Int) else (m : Int)

theorem mval_zero : mval 0 = 0 := by decide

/-- Signs and worths stand as signs and rungs. -/
theorem sg_cmp (s t : Bool) (a b : Nat) : compare (sg s (mval a)) (sg t (mval b)) = compare (sg s a) (sg t b) := by
  have key : ∀ x y x' y' : Int, (x < y ↔ x' < y') → (y < x ↔ y' < x') → compare x y = compare x' y' := by
    intro x y x' y' h1 h2
    show (if x < y then Ordering.lt else if x = y then .eq else .gt) = (if x' < y' then Ordering.lt else if x' = y' then .eq else .gt)
    by_cases hx : x < y
    · rw [if_pos hx, if_pos (h1.1 hx)]
    · rw [if_neg hx, if_neg (fun h => hx (h1.2 h))]
      by_cases hy : x = y
      · have e : x' = y' := by
          have a1 : ¬ x' < y' := fun h => hx (h1.2 h)
          have a2 : ¬ y' < x' := fun h => by have := h2.2 h; omega
          omega
        rw [if_pos hy, if_pos e]
      · have e : x' ≠ y' := by
          have : y < x := by omega
          have := h2.1 this
          omega
        rw [if_neg hy, if_neg e]
  have ha := @mval_lt_iff 0 a
  have hb := @mval_lt_iff 0 b
  have hab := @mval_lt_iff a b
  have hba := @mval_lt_iff b a
  rw [mval_zero] at ha hb
  unfold sg
  cases s <;> cases t <;> simp only [Bool.false_eq_true, if_false, if_true] <;> refine key _ _ _ _ ?_ ?_ <;> omega

theorem cmp_scale (x y : Int) {k : Nat} (hk : 0 < k) : compare (x * (k : Int)) (y * (k : Int)) = compare x y := by
  show (if x * (k : Int) < y * (k : Int) then Ordering.lt else if x * (k : Int) = y * (k : Int) then .eq else .gt) = (if x < y then Ordering.lt else if x = y then .eq else .gt)
  have hk' : (0 : Int) < (k : Int) := by omega
  have h1 : x * (k : Int) < y * (k : Int) ↔ x < y := Int.mul_lt_mul_right hk'
  have h2 : x * (k : Int) = y * (k : Int) ↔ x = y := ⟨fun h => Int.eq_of_mul_eq_mul_right (by omega) h, fun h => by rw [h]⟩
  by_cases a1 : x < y
  · rw [if_pos a1, if_pos (h1.2 a1)]
  · rw [if_neg a1, if_neg (fun h => a1 (h1.1 h))]
    by_cases a2 : x = y
    · rw [if_pos a2, if_pos (h2.2 a2)]
    · rw [if_neg a2, if_neg (fun h => a2 (h2.1 h))]

def magR (r : Nat) : Nat := if r < 4503599627370496 then r else 4503599627370496 + r % 4503599627370496
def plcR (r : Nat) : Nat := if r < 4503599627370496 then 0 else r / 4503599627370496 - 1

theorem mval_eq (r : Nat) : mval r = magR r * 2 ^ plcR r := by
  unfold mval magR plcR
  split <;> simp

theorem fmt : Ieee.double.signWeight = p63 ∧ Ieee.double.binade = 4503599627370496 ∧ Ieee.double.infRung = 9218868437227405312 ∧ Ieee.double.leastPlace = -1074 := by decide

theorem read_num {x : Nat} (hx : x < 18446744073709551616) (h : x % p63 < 9218868437227405312) : Ieee.double.read x = .number (decide (p63 ≤ x)) (magR (x % p63)) (-1074 + (plcR (x % p63) : Nat)) := by
  obtain ⟨e1, e2, e3, e4⟩ := fmt
  have hs : (x / p63 % 2 == 1) = decide (p63 ≤ x) := by
    unfold p63 at *
    by_cases hc : 9223372036854775808 ≤ x
    · rw [decide_eq_true hc, show x / 9223372036854775808 = 1 by omega]; rfl
    · rw [decide_eq_false hc, show x / 9223372036854775808 = 0 by omega]; rfl
  unfold Ieee.Format.read
  simp only [e1, e2, e3, e4, hs, h, if_true]
  unfold magR plcR
  split
  · simp
  · rfl

theorem read_inf {x : Nat} (hx : x < 18446744073709551616) (h : x % p63 = 9218868437227405312) : Ieee.double.read x = .infinity (decide (p63 ≤ x)) := by
  obtain ⟨e1, e2, e3, e4⟩ := fmt
  have hs : (x / p63 % 2 == 1) = decide (p63 ≤ x) := by
    unfold p63 at *
    by_cases hc : 9223372036854775808 ≤ x
    · rw [decide_eq_true hc, show x / 9223372036854775808 = 1 by omega]; rfl
    · rw [decide_eq_false hc, show x / 9223372036854775808 = 0 by omega]; rfl
  unfold Ieee.Format.read
  simp only [e1, e2, e3, e4, hs, h]
  simp

theorem read_nan {x : Nat} (h : 9218868437227405312 < x % p63) : ∃ n f, Ieee.double.read x = .nan n f := by
  obtain ⟨e1, e2, e3, e4⟩ := fmt
  unfold Ieee.Format.read
  simp only [e1, e2, e3, e4]
  rw [if_neg (by omega), if_neg (by omega), if_neg (by omega)]
  exact ⟨_, _, rfl⟩

theorem signed_scale (s : Bool) (m a c : Nat) (h : c ≤ a) : Ieee.signed s m (a - c) * ((2 ^ c : Nat) : Int) = sg s (m * 2 ^ a) := by
  have e : m <<< (a - c) * 2 ^ c = m * 2 ^ a := by
    rw [Nat.shiftLeft_eq, Nat.mul_assoc, ← Nat.pow_add, Nat.sub_add_cancel h]
  unfold Ieee.signed sg
  cases s
  · simp only [Bool.false_eq_true, if_false]
    rw [← e]; push_cast; rfl
  · simp only [if_true]
    rw [← e, Int.neg_mul]; push_cast; rfl

/-- The model's order of two words. -/
theorem order_eq {x y : Nat} (hx : x < 18446744073709551616) (hy : y < 18446744073709551616) : Ieee.double.order x y = ordF x y := by
  unfold Ieee.Format.order ordF
  by_cases nx : 9218868437227405312 < x % p63
  · obtain ⟨n, f, e⟩ := read_nan nx
    rw [e, show nanB x = true from decide_eq_true nx]
    rfl
  by_cases ny : 9218868437227405312 < y % p63
  · obtain ⟨n, f, e⟩ := read_nan ny
    rw [e, show nanB y = true from decide_eq_true ny, Bool.or_true, if_pos rfl]
    generalize Ieee.double.read x = d
    cases d <;> rfl
  rw [show nanB x = false from decide_eq_false nx, show nanB y = false from decide_eq_false ny]
  have hsv : ∀ z, sval z = sg (decide (p63 ≤ z)) (z % p63) := fun z => by
    unfold sval sg
    by_cases h : p63 ≤ z <;> simp [h]
  rw [hsv, hsv]
  simp only [Bool.or_self, Bool.false_eq_true, if_false]
  have cmp_def : ∀ a b : Int, compare a b = if a < b then Ordering.lt else if a = b then .eq else .gt := fun _ _ => rfl
  by_cases ix : x % p63 = 9218868437227405312
  · rw [read_inf hx ix]
    by_cases iy : y % p63 = 9218868437227405312
    · rw [read_inf hy iy, ix, iy]
      generalize decide (p63 ≤ x) = s
      generalize decide (p63 ≤ y) = t
      cases s <;> cases t <;> decide
    · rw [read_num hy (by omega), ix]
      generalize decide (p63 ≤ x) = s
      generalize decide (p63 ≤ y) = t
      have : y % p63 < 9218868437227405312 := by omega
      generalize y % p63 = b at this
      simp only [Ieee.Datum.order, cmp_def]
      cases s <;> cases t <;> simp only [sg, Bool.false_eq_true, if_false, if_true, Option.some.injEq]
      · rw [if_neg (by omega), if_neg (by omega)]
      · rw [if_neg (by omega), if_neg (by omega)]
      · rw [if_pos (by omega)]
      · rw [if_pos (by omega)]
  · rw [read_num hx (by omega)]
    by_cases iy : y % p63 = 9218868437227405312
    · rw [read_inf hy iy, iy]
      generalize decide (p63 ≤ x) = s
      generalize decide (p63 ≤ y) = t
      have : x % p63 < 9218868437227405312 := by omega
      generalize x % p63 = b at this
      simp only [Ieee.Datum.order, cmp_def]
      cases s <;> cases t <;> simp only [sg, Bool.false_eq_true, if_false, if_true, Option.some.injEq]
      · rw [if_pos (by omega)]
      · rw [if_neg (by omega), if_neg (by omega)]
      · rw [if_pos (by omega)]
      · rw [if_neg (by omega), if_neg (by omega)]
    · rw [read_num hy (by omega)]
      generalize decide (p63 ≤ x) = s
      generalize decide (p63 ≤ y) = t
      generalize x % p63 = a
      generalize y % p63 = b
      simp only [Ieee.Datum.order, Option.some.injEq]
      rw [← sg_cmp, mval_eq, mval_eq]
      have hc : min (-1074 + ((plcR a : Nat) : Int)) (-1074 + ((plcR b : Nat) : Int)) = -1074 + ((min (plcR a) (plcR b) : Nat) : Int) := by omega
      rw [hc]
      have e1 : (-1074 + ((plcR a : Nat) : Int) - (-1074 + ((min (plcR a) (plcR b) : Nat) : Int))).toNat = plcR a - min (plcR a) (plcR b) := by omega
      have e2 : (-1074 + ((plcR b : Nat) : Int) - (-1074 + ((min (plcR a) (plcR b) : Nat) : Int))).toNat = plcR b - min (plcR a) (plcR b) := by omega
      rw [e1, e2, ← signed_scale s (magR a) (plcR a) (min (plcR a) (plcR b)) (by omega), ← signed_scale t (magR b) (plcR b) (min (plcR a) (plcR b)) (by omega)]
      exact (cmp_scale _ _ (Nat.two_pow_pos _)).symm

/-! Values. -/

structure Val where
  k : Int
  x : Nat
  s : List UInt8
  b : Bool
  f : Int

def vv (v : Val) : Value := .agg ⟨[.int .i64 v.k, .float .f64 v.x, .string ⟨⟨v.s⟩⟩, .bool v.b, .int .i64 v.f]⟩

def cmpI (x y : Int) : Int := if x < y then -1 else if y < x then 1 else 0
def b2i (b : Bool) : Int := if b then 1 else 0

def isFault (v : Val) : Bool := match (match v.k == 4 with | true => decide (v.f ≥ 1) | false => false) with | true => decide (v.f ≤ 5) | false => false
def kindless (v : Val) : Bool := match decide (v.k < 0) with | true => true | false => decide (v.k ≥ 4)
/-- Whose fault it is; 0: none's. -/
def faultI (v : Val) : Int := if isFault v then v.f else if kindless v then 3 else 0
def besideV (v w : Val) : Val := if v.k = 0 then ⟨w.k, 0, [], false, 0⟩ else v
def truthV (b : Bool) : Val := ⟨3, 0, [], b, 0⟩
def badF (f : Int) : Bool := match decide (f < 1) with | true => true | false => decide (f > 5)
def faultV (f : Int) : Val := ⟨4, 0, [], false, if badF f then 3 else f⟩

def orderV (a b : Val) : Int :=
  if cmpI a.k b.k ≠ 0 then cmpI a.k b.k
  else if a.k = 1 then cmpI (keyI a.x) (keyI b.x)
  else if a.k = 2 then Lib.compareBytes a.s b.s
  else if a.k = 3 then cmpI (b2i a.b) (b2i b.b)
  else if a.k = 4 then cmpI a.f b.f
  else 0

def isOp (op : Int) : Bool := decide (10 ≤ op) && decide (op ≤ 15)

def askB (op : Int) (l e g : Bool) : Bool :=
  if op = 10 then e else if op = 11 then !e else if op = 12 then l else if op = 13 then (match l with | true => true | false => e) else if op = 14 then g else (match e with | true => true | false => g)

def compareV (op : Int) (a b : Val) : Val :=
  if isOp op = false then faultV 3
  else if faultI a ≠ 0 then faultV (faultI a)
  else if faultI b ≠ 0 then faultV (faultI b)
  else if (besideV a b).k = 1 ∧ (besideV b a).k = 1 then
    truthV (askB op (Ieee.double.order (besideV a b).x (besideV b a).x == some .lt) (Ieee.double.order (besideV a b).x (besideV b a).x == some .eq) (Ieee.double.order (besideV a b).x (besideV b a).x == some .gt))
  else truthV (askB op (decide (orderV (besideV a b) (besideV b a) < 0)) (orderV (besideV a b) (besideV b a) == 0) (decide (orderV (besideV a b) (besideV b a) > 0)))

/-- Is a below b; are they equal? -/
def standB (a b : Val) : Bool × Bool :=
  if (besideV a b).k ≠ 1 ∨ (besideV b a).k ≠ 1 then (decide (orderV (besideV a b) (besideV b a) < 0), orderV (besideV a b) (besideV b a) == 0)
  else if nanB (besideV a b).x || nanB (besideV b a).x then (false, false)
  else if (besideV a b).x % p63 = 0 ∧ (besideV b a).x % p63 = 0 then (false, true)
  else (decide (cmpI (keyI (besideV a b).x) (keyI (besideV b a).x) < 0), decide ((besideV a b).x = (besideV b a).x))

def refAsk (op : Int) (below equal above : Bool) : Bool :=
  if op = 10 then equal else if op = 11 then !equal else if op = 12 then below else if op = 13 then below || equal else if op = 14 then above else above || equal

def refCompareV (op : Int) (a b : Val) : Val :=
  if isOp op = false then faultV 3
  else if faultI a ≠ 0 then faultV (faultI a)
  else if faultI b ≠ 0 then faultV (faultI b)
  else truthV (refAsk op (standB a b).1 (standB a b).2 (standB b a).1)

theorem cmpI_turn (x y : Int) : cmpI y x = -cmpI x y := by
  unfold cmpI
  split <;> split <;> omega

theorem cmpI_range (x y : Int) : cmpI x y = -1 ∧ x < y ∨ cmpI x y = 0 ∧ x = y ∨ cmpI x y = 1 ∧ y < x := by
  unfold cmpI
  split
  · exact .inl ⟨rfl, by assumption⟩
  · split
    · exact .inr (.inr ⟨rfl, by assumption⟩)
    · exact .inr (.inl ⟨rfl, by omega⟩)

theorem bytes_turn : ∀ a b : List UInt8, Lib.compareBytes b a = -Lib.compareBytes a b
  | [], [] => rfl
  | [], _ :: _ => rfl
  | _ :: _, [] => rfl
  | a :: as, b :: bs => by
    simp only [Lib.compareBytes]
    by_cases h1 : a < b
    · have h2 : ¬ b < a := fun h => by
        have h1 := UInt8.lt_iff_toNat_lt.1 h1
        have h := UInt8.lt_iff_toNat_lt.1 h
        omega
      rw [if_neg h2, if_pos h1, if_pos h1]; rfl
    · by_cases h2 : b < a
      · rw [if_pos h2, if_neg h1, if_pos h2]
      · rw [if_neg h2, if_neg h1, if_neg h1, if_neg h2]
        exact bytes_turn as bs

theorem orderV_turn (a b : Val) : orderV b a = -orderV a b := by
  unfold orderV
  rw [cmpI_turn a.k b.k]
  rcases cmpI_range a.k b.k with ⟨h, _⟩ | ⟨h, hk⟩ | ⟨h, _⟩
  · rw [h]; simp
  · rw [h, hk]
    simp only [Int.neg_zero, ne_eq, not_true, if_false]
    split
    · exact cmpI_turn _ _
    · split
      · exact bytes_turn _ _
      · split
        · exact cmpI_turn _ _
        · split
          · exact cmpI_turn _ _
          · rfl
  · rw [h]; simp

/-- Numbers stand as their places do, the two noughts aside. -/
theorem ordF_lt {x y : Nat} (hx : x < 18446744073709551616) (hy : y < 18446744073709551616) (nx : nanB x = false) (ny : nanB y = false) :
    (ordF x y == some .lt) = (if x % p63 = 0 ∧ y % p63 = 0 then false else decide (cmpI (keyI x) (keyI y) < 0)) ∧
    (ordF x y == some .eq) = (if x % p63 = 0 ∧ y % p63 = 0 then true else decide (x = y)) := by
  have cmp_def : ∀ a b : Int, compare a b = if a < b then Ordering.lt else if a = b then .eq else .gt := fun _ _ => rfl
  have hc : cmpI (keyI x) (keyI y) < 0 ↔ keyI x < keyI y := by
    rcases cmpI_range (keyI x) (keyI y) with ⟨h, h'⟩ | ⟨h, h'⟩ | ⟨h, h'⟩ <;> rw [h] <;> omega
  have hcd : decide (cmpI (keyI x) (keyI y) < 0) = decide (keyI x < keyI y) := by rw [decide_eq_decide]; exact hc
  rw [hcd]
  unfold ordF
  rw [nx, ny]
  simp only [Bool.or_self, Bool.false_eq_true, if_false, cmp_def]
  unfold keyI sval
  rw [nx, ny]
  simp only [Bool.false_eq_true, if_false]
  have mx : x % p63 < p63 := Nat.mod_lt _ (by decide)
  have my : y % p63 < p63 := Nat.mod_lt _ (by decide)
  have ex : x = (if p63 ≤ x then p63 else 0) + x % p63 := by unfold p63 at *; split <;> omega
  have ey : y = (if p63 ≤ y then p63 else 0) + y % p63 := by unfold p63 at *; split <;> omega
  have key : ∀ (a b : Int) (P Q : Prop) [Decidable P] [Decidable Q], (a < b ↔ P) → (a = b ↔ Q) → ((some (if a < b then Ordering.lt else if a = b then .eq else .gt) == some .lt) = decide P ∧ (some (if a < b then Ordering.lt else if a = b then .eq else .gt) == some .eq) = decide Q) := by
    intro a b P Q _ _ h1 h2
    by_cases c1 : a < b
    · have hq : ¬ Q := fun h => by have := h2.2 h; omega
      simp [c1, h1.1 c1, hq]
    · by_cases c2 : a = b
      · have hp : ¬ P := fun h => c1 (h1.2 h)
        simp [c2, hp, h2.1 c2]
      · have hp : ¬ P := fun h => c1 (h1.2 h)
        have hq : ¬ Q := fun h => c2 (h2.2 h)
        simp [c1, c2, hp, hq]
  have e1 : (if x % p63 = 0 ∧ y % p63 = 0 then false else decide ((if p63 ≤ x then -((x % p63 : Nat) : Int) - 1 else ((x % p63 : Nat) : Int)) < (if p63 ≤ y then -((y % p63 : Nat) : Int) - 1 else ((y % p63 : Nat) : Int)))) =
      decide (¬ (x % p63 = 0 ∧ y % p63 = 0) ∧ (if p63 ≤ x then -((x % p63 : Nat) : Int) - 1 else ((x % p63 : Nat) : Int)) < (if p63 ≤ y then -((y % p63 : Nat) : Int) - 1 else ((y % p63 : Nat) : Int))) := by
    by_cases c : x % p63 = 0 ∧ y % p63 = 0
    · rw [if_pos c]; simp [c]
    · rw [if_neg c, decide_eq_decide]; exact ⟨fun h => ⟨c, h⟩, fun h => h.2⟩
  have e2 : (if x % p63 = 0 ∧ y % p63 = 0 then true else decide (x = y)) = decide ((x % p63 = 0 ∧ y % p63 = 0) ∨ x = y) := by
    by_cases c : x % p63 = 0 ∧ y % p63 = 0
    · rw [if_pos c]; simp [c]
    · rw [if_neg c, decide_eq_decide]; exact ⟨fun h => .inr h, fun h => h.elim (fun h => absurd h c) id⟩
  rw [e1, e2]
  refine key _ _ _ _ ?_ ?_
  · by_cases a1 : p63 ≤ x <;> by_cases a2 : p63 ≤ y <;> simp only [a1, a2, if_true, if_false] at * <;> omega
  · by_cases a1 : p63 ≤ x <;> by_cases a2 : p63 ≤ y <;> simp only [a1, a2, if_true, if_false] at * <;> omega

theorem ordF_gt (x y : Nat) : (ordF x y == some .gt) = (ordF y x == some .lt) := by
  have cmp_def : ∀ a b : Int, compare a b = if a < b then Ordering.lt else if a = b then .eq else .gt := fun _ _ => rfl
  unfold ordF
  rw [Bool.or_comm]
  split
  · rfl
  · simp only [cmp_def]
    by_cases c1 : sval x < sval y
    · rw [if_pos c1, if_neg (by omega), if_neg (by omega)]; rfl
    · by_cases c2 : sval x = sval y
      · rw [if_neg c1, if_pos c2, if_neg (by omega), if_pos c2.symm]; rfl
      · rw [if_neg c1, if_neg c2, if_pos (by omega)]; rfl

theorem askB_eq (op : Int) (l e g : Bool) : askB op l e g = refAsk op l e g := by
  unfold askB refAsk
  cases l <;> cases e <;> cases g <;> rfl

/-- THE LAW, in plain words: the comparison is the document's. -/
theorem compare_law (op : Int) (a b : Val) (ha : a.x < 18446744073709551616) (hb : b.x < 18446744073709551616) : compareV op a b = refCompareV op a b := by
  have hz : ∀ v w : Val, v.x < 18446744073709551616 → (besideV v w).x < 18446744073709551616 := fun v w h => by
    unfold besideV
    split
    · exact Nat.zero_lt_succ _
    · exact h
  have h1 := hz a b ha
  have h2 := hz b a hb
  unfold compareV refCompareV
  split
  · rfl
  split
  · rfl
  split
  · rfl
  rw [← askB_eq]
  unfold standB
  generalize besideV a b = u at *
  generalize besideV b a = v at *
  by_cases hk : u.k = 1 ∧ v.k = 1
  · have hk1 : ¬ (u.k ≠ 1 ∨ v.k ≠ 1) := fun h => h.elim (fun h => h hk.1) (fun h => h hk.2)
    have hk2 : ¬ (v.k ≠ 1 ∨ u.k ≠ 1) := fun h => h.elim (fun h => h hk.2) (fun h => h hk.1)
    rw [if_pos hk, if_neg hk1, if_neg hk2, order_eq h1 h2, ordF_gt]
    cases nu : nanB u.x
    · cases nv : nanB v.x
      · obtain ⟨q1, q2⟩ := ordF_lt h1 h2 nu nv
        obtain ⟨q3, _⟩ := ordF_lt h2 h1 nv nu
        rw [q1, q2, q3]
        simp only [Bool.or_self, Bool.false_eq_true, if_false]
        by_cases c : u.x % p63 = 0 ∧ v.x % p63 = 0
        · have c' : v.x % p63 = 0 ∧ u.x % p63 = 0 := ⟨c.2, c.1⟩
          simp [c]
        · have c' : ¬ (v.x % p63 = 0 ∧ u.x % p63 = 0) := fun h => c ⟨h.2, h.1⟩
          simp only [if_neg c, if_neg c']
      · have e1 : ordF u.x v.x = none := by unfold ordF; rw [nv]; simp
        have e2 : ordF v.x u.x = none := by unfold ordF; rw [nv]; simp
        rw [e1, e2]
        simp
    · have e1 : ordF u.x v.x = none := by unfold ordF; rw [nu]; simp
      have e2 : ordF v.x u.x = none := by unfold ordF; rw [nu]; simp
      rw [e1, e2]
      simp
  · have hk1 : u.k ≠ 1 ∨ v.k ≠ 1 := by
      by_cases h : u.k = 1
      · exact .inr (fun h' => hk ⟨h, h'⟩)
      · exact .inl h
    rw [if_neg hk, if_pos hk1, if_pos hk1.symm, orderV_turn u v]
    have e : decide (orderV u v > 0) = decide (-orderV u v < 0) := by rw [decide_eq_decide]; omega
    rw [e]

end Go.Proofs.YtaopinmjgjpiiaaGreatDoor.VaS
