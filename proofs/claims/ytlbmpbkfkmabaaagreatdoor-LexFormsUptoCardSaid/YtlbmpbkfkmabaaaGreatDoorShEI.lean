/-
  Several texts in one (merge.py): ShE, ShF, ShG, ShH, ShI.
-/
import Derived.Test.YtlbmpbkfkmabaaaGreatDoorShD
import Derived.Shelf.Strings.Prefix

/-
  The table with Itoa and Atoi; what a format's code and reading come to.
-/
namespace Go.Proofs.YtlbmpbkfkmabaaaGreatDoor
open Go Go.RowKit Ev

noncomputable def tabSh0 : Tab := tabAdd 23 specItoa tabN0
theorem tabSh0_ok : PcOk Tryz.prog J0 tabSh0 := tabAdd_ok specItoa_ok tabN0_ok
noncomputable def mtabSh0 : MTab := mtabAdd 28 (specAtoi (Tryz.laysC172_ren.t 168)) mtab0
theorem mtabSh0_ok : ClOk Tryz.prog J0 mtabSh0 := mtabAdd_ok specAtoi_ok (mtab0_ok _ _)
noncomputable def bSh0 : Base := ⟨Tryz.prog, J0, false, tabSh0, mtabSh0, 2000, xtN0⟩
theorem bSh0_ok : BaseOk bSh0 := ⟨progOk, tabSh0_ok, mtabSh0_ok, xtN0_ok⟩

end Go.Proofs.YtlbmpbkfkmabaaaGreatDoor

/-
  Formats: which may be (printed by semgen.py, but for the contract).
-/
namespace Go.Proofs.YtlbmpbkfkmabaaaGreatDoor
open Go Go.RowKit Ev Sh
noncomputable abbrev XSh0 := bSh0.cx 12
abbrev fm (k p : Int) (g : Bool) (w : Int) : Value := .agg ⟨[.int .i64 k, .int .i64 p, .bool g, .int .i64 w]⟩

set_option maxRecDepth 100000 in
theorem vd_out (k p w : Int) (g : Bool) : pureCall XSh0 [] 200 21 [fm k p g w] [true] = some (Value.bool false, [(match match match decide (k < 1) with | true => true | false => decide (k > 5) with | true => true | false => decide (w < 0) with | true => true | false => decide (w > 64)) = true]) := by kernel_rfl
set_option maxRecDepth 100000 in
theorem vd_1 (p w : Int) (g : Bool) : pureCall XSh0 [] 200 21 [fm 1 p g w] [false] = some (Value.bool (match match decide (p ≥ 0) with | true => decide (p ≤ 30) | false => false with | true => (match false with | true => true | false => !g) | false => false), [Int.ofNat 0 ≤ Int.ofNat 1 ∧ Int.ofNat 1 < Int.ofNat 6, (match match match decide (1 < 1) with | true => true | false => decide (1 > 5) with | true => true | false => decide (w < 0) with | true => true | false => decide (w > 64)) = false]) := by kernel_rfl
set_option maxRecDepth 100000 in
theorem vd_2 (p w : Int) (g : Bool) : pureCall XSh0 [] 200 21 [fm 2 p g w] [false] = some (Value.bool (match match decide (p ≥ 0) with | true => decide (p ≤ 30) | false => false with | true => (match true with | true => true | false => !g) | false => false), [Int.ofNat 0 ≤ Int.ofNat 2 ∧ Int.ofNat 2 < Int.ofNat 6, (match match match decide (2 < 1) with | true => true | false => decide (2 > 5) with | true => true | false => decide (w < 0) with | true => true | false => decide (w > 64)) = false]) := by kernel_rfl
set_option maxRecDepth 100000 in
theorem vd_3 (p w : Int) (g : Bool) : pureCall XSh0 [] 200 21 [fm 3 p g w] [false] = some (Value.bool (match match decide (p ≥ 0) with | true => decide (p ≤ 30) | false => false with | true => (match false with | true => true | false => !g) | false => false), [Int.ofNat 0 ≤ Int.ofNat 3 ∧ Int.ofNat 3 < Int.ofNat 6, (match match match decide (3 < 1) with | true => true | false => decide (3 > 5) with | true => true | false => decide (w < 0) with | true => true | false => decide (w > 64)) = false]) := by kernel_rfl
set_option maxRecDepth 100000 in
theorem vd_4 (p w : Int) (g : Bool) : pureCall XSh0 [] 200 21 [fm 4 p g w] [false] = some (Value.bool (match match decide (p ≥ 0) with | true => decide (p ≤ 30) | false => false with | true => (match true with | true => true | false => !g) | false => false), [Int.ofNat 0 ≤ Int.ofNat 4 ∧ Int.ofNat 4 < Int.ofNat 6, (match match match decide (4 < 1) with | true => true | false => decide (4 > 5) with | true => true | false => decide (w < 0) with | true => true | false => decide (w > 64)) = false]) := by kernel_rfl
set_option maxRecDepth 100000 in
theorem vd_5 (p w : Int) (g : Bool) : pureCall XSh0 [] 200 21 [fm 5 p g w] [false] = some (Value.bool (match match decide (p ≥ 1) with | true => decide (p ≤ 3) | false => false with | true => (match false with | true => true | false => !g) | false => false), [Int.ofNat 0 ≤ Int.ofNat 5 ∧ Int.ofNat 5 < Int.ofNat 6, (match match match decide (5 < 1) with | true => true | false => decide (5 > 5) with | true => true | false => decide (w < 0) with | true => true | false => decide (w > 64)) = false]) := by kernel_rfl

theorem pure_call {b : Base} (hb : BaseOk b) {k : Nat} {L : Hints} {fuel : Nat} {ds : List Bool} {f : FuncId} {args : List Value} {v : Value} {l : List Prop} (h : pureCall (b.cx k) L fuel f args ds = some (v, l)) (hl : allP l) : Pure b.P b.J f args v := by
  obtain ⟨h1, h2⟩ := Base.cx_ok hb k
  have := pureCall_sound h1 h2 h hl
  cases k with
  | zero => exact this
  | succ k => exact this

theorem valid_pure (k p w : Int) (g : Bool) : Pure Tryz.prog J0 21 [fm k p g w] (.bool (valid k p g w)) := by
  by_cases h : 1 ≤ k ∧ k ≤ 5 ∧ 0 ≤ w ∧ w ≤ 64
  · obtain ⟨h1, h2, h3, h4⟩ := h
    have hw : decide (w < 0) = false := decide_eq_false (by omega)
    have hw' : decide (w > 64) = false := decide_eq_false (by omega)
    have : k = 1 ∨ k = 2 ∨ k = 3 ∨ k = 4 ∨ k = 5 := by omega
    rcases this with rfl | rfl | rfl | rfl | rfl
    · have := pure_call bSh0_ok (vd_1 p w g) (by simp [allP, hw, hw'])
      refine cast (congrArg (fun b => Pure _ _ _ _ (.bool b)) ?_) this
      cases g <;> by_cases q : 0 ≤ p <;> by_cases q' : p ≤ 30 <;> simp [valid, Sh.least, most, commas, h3, h4, q, q']
    · have := pure_call bSh0_ok (vd_2 p w g) (by simp [allP, hw, hw'])
      refine cast (congrArg (fun b => Pure _ _ _ _ (.bool b)) ?_) this
      cases g <;> by_cases q : 0 ≤ p <;> by_cases q' : p ≤ 30 <;> simp [valid, Sh.least, most, commas, h3, h4, q, q']
    · have := pure_call bSh0_ok (vd_3 p w g) (by simp [allP, hw, hw'])
      refine cast (congrArg (fun b => Pure _ _ _ _ (.bool b)) ?_) this
      cases g <;> by_cases q : 0 ≤ p <;> by_cases q' : p ≤ 30 <;> simp [valid, Sh.least, most, commas, h3, h4, q, q']
    · have := pure_call bSh0_ok (vd_4 p w g) (by simp [allP, hw, hw'])
      refine cast (congrArg (fun b => Pure _ _ _ _ (.bool b)) ?_) this
      cases g <;> by_cases q : 0 ≤ p <;> by_cases q' : p ≤ 30 <;> simp [valid, Sh.least, most, commas, h3, h4, q, q']
    · have := pure_call bSh0_ok (vd_5 p w g) (by simp [allP, hw, hw'])
      refine cast (congrArg (fun b => Pure _ _ _ _ (.bool b)) ?_) this
      cases g <;> by_cases q : 1 ≤ p <;> by_cases q' : p ≤ 3 <;> simp [valid, Sh.least, most, commas, h3, h4, q, q']
  · have hv : valid k p g w = false := by
      cases hv : valid k p g w with
      | false => rfl
      | true =>
        unfold valid at hv
        simp only [Bool.and_eq_true, decide_eq_true_eq] at hv
        exact absurd ⟨hv.1.1.1.1.1.1, hv.1.1.1.1.1.2, hv.1.1.1.1.2, hv.1.1.1.2⟩ h
    rw [hv]
    refine pure_call bSh0_ok (vd_out k p w g) ⟨?_, trivial⟩
    by_cases h1 : k < 1
    · simp [h1]
    by_cases h2 : k > 5
    · simp [h1, h2]
    by_cases h3 : w < 0
    · simp [h1, h2, h3]
    by_cases h4 : w > 64
    · simp [h1, h2, h3, h4]
    exact absurd ⟨by omega, by omega, by omega, by omega⟩ h

def specValidF : List Value → Option (Value × List Prop)
  | [.agg ⟨[.int .i64 k, .int .i64 p, .bool g, .int .i64 w]⟩] => some (.bool (valid k p g w), [])
  | _ => none

theorem specValidF_ok (args : List Value) (v : Value) (l : List Prop) (h : specValidF args = some (v, l)) (_ : allP l) : Pure Tryz.prog J0 21 args v := by
  unfold specValidF at h
  split at h
  · cases h; exact valid_pure _ _ _ _
  · cases h

noncomputable def tabSh1 : Tab := tabAdd 21 specValidF tabSh0
theorem tabSh1_ok : PcOk Tryz.prog J0 tabSh1 := tabAdd_ok specValidF_ok tabSh0_ok
noncomputable def bSh1 : Base := ⟨Tryz.prog, J0, false, tabSh1, mtabSh0, 2000, xtN0⟩
theorem bSh1_ok : BaseOk bSh1 := ⟨progOk, tabSh1_ok, mtabSh0_ok, xtN0_ok⟩

end Go.Proofs.YtlbmpbkfkmabaaaGreatDoor

/-
  A format's code as a contract (printed by mkcode.py).
-/
namespace Go.Proofs.YtlbmpbkfkmabaaaGreatDoor
open Go Go.RowKit Ev Sh

noncomputable abbrev XSh1 := bSh1.cx 12

set_option maxRecDepth 100000 in
theorem cd_bad (k p w : Int) (g : Bool) : pureCall XSh1 [] 200 7 [fm k p g w] [true] = some (.tuple ⟨[.string ⟨⟨[]⟩⟩, .int .i64 1]⟩, [(!valid k p g w) = true]) := by kernel_rfl

set_option maxRecDepth 100000 in
theorem cd_1ft (p w : Int) : pureCall XSh1 [] 200 7 [fm 1 p false w] [false, false, true] = some (.tuple ⟨[.string ⟨⟨((103 :: Lib.decDigits p.toNat) ++ (58 :: Lib.decDigits w.toNat))⟩⟩, .int .i64 0]⟩,
  [(103 :: Lib.decDigits p.toNat).length + (58 :: Lib.decDigits w.toNat).length ≤ 9223372036854775807, 1 + (Lib.decDigits w.toNat).length ≤ 9223372036854775807, 0 ≤ w ∧ w ≤ 9223372036854775807, (w != 0) = true, false = false, 1 + (Lib.decDigits p.toNat).length ≤ 9223372036854775807, 0 ≤ p ∧ p ≤ 9223372036854775807, (0 : Int) ≤ 1 ∧ (1 : Int) < 6, (!valid 1 p false w) = false]) := by kernel_rfl

set_option maxRecDepth 100000 in
theorem cd_1ff (p w : Int) : pureCall XSh1 [] 200 7 [fm 1 p false w] [false, false, false] = some (.tuple ⟨[.string ⟨⟨(103 :: Lib.decDigits p.toNat)⟩⟩, .int .i64 0]⟩,
  [(w != 0) = false, false = false, 1 + (Lib.decDigits p.toNat).length ≤ 9223372036854775807, 0 ≤ p ∧ p ≤ 9223372036854775807, (0 : Int) ≤ 1 ∧ (1 : Int) < 6, (!valid 1 p false w) = false]) := by kernel_rfl

set_option maxRecDepth 100000 in
theorem cd_2ft (p w : Int) : pureCall XSh1 [] 200 7 [fm 2 p false w] [false, false, true] = some (.tuple ⟨[.string ⟨⟨((102 :: Lib.decDigits p.toNat) ++ (58 :: Lib.decDigits w.toNat))⟩⟩, .int .i64 0]⟩,
  [(102 :: Lib.decDigits p.toNat).length + (58 :: Lib.decDigits w.toNat).length ≤ 9223372036854775807, 1 + (Lib.decDigits w.toNat).length ≤ 9223372036854775807, 0 ≤ w ∧ w ≤ 9223372036854775807, (w != 0) = true, false = false, 1 + (Lib.decDigits p.toNat).length ≤ 9223372036854775807, 0 ≤ p ∧ p ≤ 9223372036854775807, (0 : Int) ≤ 2 ∧ (2 : Int) < 6, (!valid 2 p false w) = false]) := by kernel_rfl

set_option maxRecDepth 100000 in
theorem cd_2ff (p w : Int) : pureCall XSh1 [] 200 7 [fm 2 p false w] [false, false, false] = some (.tuple ⟨[.string ⟨⟨(102 :: Lib.decDigits p.toNat)⟩⟩, .int .i64 0]⟩,
  [(w != 0) = false, false = false, 1 + (Lib.decDigits p.toNat).length ≤ 9223372036854775807, 0 ≤ p ∧ p ≤ 9223372036854775807, (0 : Int) ≤ 2 ∧ (2 : Int) < 6, (!valid 2 p false w) = false]) := by kernel_rfl

set_option maxRecDepth 100000 in
theorem cd_2tt (p w : Int) : pureCall XSh1 [] 200 7 [fm 2 p true w] [false, true, true] = some (.tuple ⟨[.string ⟨⟨(((102 :: Lib.decDigits p.toNat) ++ [44]) ++ (58 :: Lib.decDigits w.toNat))⟩⟩, .int .i64 0]⟩,
  [((102 :: Lib.decDigits p.toNat) ++ [44]).length + (58 :: Lib.decDigits w.toNat).length ≤ 9223372036854775807, 1 + (Lib.decDigits w.toNat).length ≤ 9223372036854775807, 0 ≤ w ∧ w ≤ 9223372036854775807, (w != 0) = true, (102 :: Lib.decDigits p.toNat).length + 1 ≤ 9223372036854775807, true = true, 1 + (Lib.decDigits p.toNat).length ≤ 9223372036854775807, 0 ≤ p ∧ p ≤ 9223372036854775807, (0 : Int) ≤ 2 ∧ (2 : Int) < 6, (!valid 2 p true w) = false]) := by kernel_rfl

set_option maxRecDepth 100000 in
theorem cd_2tf (p w : Int) : pureCall XSh1 [] 200 7 [fm 2 p true w] [false, true, false] = some (.tuple ⟨[.string ⟨⟨((102 :: Lib.decDigits p.toNat) ++ [44])⟩⟩, .int .i64 0]⟩,
  [(w != 0) = false, (102 :: Lib.decDigits p.toNat).length + 1 ≤ 9223372036854775807, true = true, 1 + (Lib.decDigits p.toNat).length ≤ 9223372036854775807, 0 ≤ p ∧ p ≤ 9223372036854775807, (0 : Int) ≤ 2 ∧ (2 : Int) < 6, (!valid 2 p true w) = false]) := by kernel_rfl

set_option maxRecDepth 100000 in
theorem cd_3ft (p w : Int) : pureCall XSh1 [] 200 7 [fm 3 p false w] [false, false, true] = some (.tuple ⟨[.string ⟨⟨((115 :: Lib.decDigits p.toNat) ++ (58 :: Lib.decDigits w.toNat))⟩⟩, .int .i64 0]⟩,
  [(115 :: Lib.decDigits p.toNat).length + (58 :: Lib.decDigits w.toNat).length ≤ 9223372036854775807, 1 + (Lib.decDigits w.toNat).length ≤ 9223372036854775807, 0 ≤ w ∧ w ≤ 9223372036854775807, (w != 0) = true, false = false, 1 + (Lib.decDigits p.toNat).length ≤ 9223372036854775807, 0 ≤ p ∧ p ≤ 9223372036854775807, (0 : Int) ≤ 3 ∧ (3 : Int) < 6, (!valid 3 p false w) = false]) := by kernel_rfl

set_option maxRecDepth 100000 in
theorem cd_3ff (p w : Int) : pureCall XSh1 [] 200 7 [fm 3 p false w] [false, false, false] = some (.tuple ⟨[.string ⟨⟨(115 :: Lib.decDigits p.toNat)⟩⟩, .int .i64 0]⟩,
  [(w != 0) = false, false = false, 1 + (Lib.decDigits p.toNat).length ≤ 9223372036854775807, 0 ≤ p ∧ p ≤ 9223372036854775807, (0 : Int) ≤ 3 ∧ (3 : Int) < 6, (!valid 3 p false w) = false]) := by kernel_rfl

set_option maxRecDepth 100000 in
theorem cd_4ft (p w : Int) : pureCall XSh1 [] 200 7 [fm 4 p false w] [false, false, true] = some (.tuple ⟨[.string ⟨⟨((112 :: Lib.decDigits p.toNat) ++ (58 :: Lib.decDigits w.toNat))⟩⟩, .int .i64 0]⟩,
  [(112 :: Lib.decDigits p.toNat).length + (58 :: Lib.decDigits w.toNat).length ≤ 9223372036854775807, 1 + (Lib.decDigits w.toNat).length ≤ 9223372036854775807, 0 ≤ w ∧ w ≤ 9223372036854775807, (w != 0) = true, false = false, 1 + (Lib.decDigits p.toNat).length ≤ 9223372036854775807, 0 ≤ p ∧ p ≤ 9223372036854775807, (0 : Int) ≤ 4 ∧ (4 : Int) < 6, (!valid 4 p false w) = false]) := by kernel_rfl

set_option maxRecDepth 100000 in
theorem cd_4ff (p w : Int) : pureCall XSh1 [] 200 7 [fm 4 p false w] [false, false, false] = some (.tuple ⟨[.string ⟨⟨(112 :: Lib.decDigits p.toNat)⟩⟩, .int .i64 0]⟩,
  [(w != 0) = false, false = false, 1 + (Lib.decDigits p.toNat).length ≤ 9223372036854775807, 0 ≤ p ∧ p ≤ 9223372036854775807, (0 : Int) ≤ 4 ∧ (4 : Int) < 6, (!valid 4 p false w) = false]) := by kernel_rfl

set_option maxRecDepth 100000 in
theorem cd_4tt (p w : Int) : pureCall XSh1 [] 200 7 [fm 4 p true w] [false, true, true] = some (.tuple ⟨[.string ⟨⟨(((112 :: Lib.decDigits p.toNat) ++ [44]) ++ (58 :: Lib.decDigits w.toNat))⟩⟩, .int .i64 0]⟩,
  [((112 :: Lib.decDigits p.toNat) ++ [44]).length + (58 :: Lib.decDigits w.toNat).length ≤ 9223372036854775807, 1 + (Lib.decDigits w.toNat).length ≤ 9223372036854775807, 0 ≤ w ∧ w ≤ 9223372036854775807, (w != 0) = true, (112 :: Lib.decDigits p.toNat).length + 1 ≤ 9223372036854775807, true = true, 1 + (Lib.decDigits p.toNat).length ≤ 9223372036854775807, 0 ≤ p ∧ p ≤ 9223372036854775807, (0 : Int) ≤ 4 ∧ (4 : Int) < 6, (!valid 4 p true w) = false]) := by kernel_rfl

set_option maxRecDepth 100000 in
theorem cd_4tf (p w : Int) : pureCall XSh1 [] 200 7 [fm 4 p true w] [false, true, false] = some (.tuple ⟨[.string ⟨⟨((112 :: Lib.decDigits p.toNat) ++ [44])⟩⟩, .int .i64 0]⟩,
  [(w != 0) = false, (112 :: Lib.decDigits p.toNat).length + 1 ≤ 9223372036854775807, true = true, 1 + (Lib.decDigits p.toNat).length ≤ 9223372036854775807, 0 ≤ p ∧ p ≤ 9223372036854775807, (0 : Int) ≤ 4 ∧ (4 : Int) < 6, (!valid 4 p true w) = false]) := by kernel_rfl

set_option maxRecDepth 100000 in
theorem cd_5ft (p w : Int) : pureCall XSh1 [] 200 7 [fm 5 p false w] [false, false, true] = some (.tuple ⟨[.string ⟨⟨((113 :: Lib.decDigits p.toNat) ++ (58 :: Lib.decDigits w.toNat))⟩⟩, .int .i64 0]⟩,
  [(113 :: Lib.decDigits p.toNat).length + (58 :: Lib.decDigits w.toNat).length ≤ 9223372036854775807, 1 + (Lib.decDigits w.toNat).length ≤ 9223372036854775807, 0 ≤ w ∧ w ≤ 9223372036854775807, (w != 0) = true, false = false, 1 + (Lib.decDigits p.toNat).length ≤ 9223372036854775807, 0 ≤ p ∧ p ≤ 9223372036854775807, (0 : Int) ≤ 5 ∧ (5 : Int) < 6, (!valid 5 p false w) = false]) := by kernel_rfl

set_option maxRecDepth 100000 in
theorem cd_5ff (p w : Int) : pureCall XSh1 [] 200 7 [fm 5 p false w] [false, false, false] = some (.tuple ⟨[.string ⟨⟨(113 :: Lib.decDigits p.toNat)⟩⟩, .int .i64 0]⟩,
  [(w != 0) = false, false = false, 1 + (Lib.decDigits p.toNat).length ≤ 9223372036854775807, 0 ≤ p ∧ p ≤ 9223372036854775807, (0 : Int) ≤ 5 ∧ (5 : Int) < 6, (!valid 5 p false w) = false]) := by kernel_rfl

theorem dig_len {n : Nat} (h : n < 100) : (Lib.decDigits n).length ≤ 2 := by
  rw [d2_eq h]
  unfold d2
  split <;> simp

theorem tup_cast {P : Program} {J : Ev.Inv P} {f : FuncId} {args : List Value} {s s' : List UInt8} {e : Int} (h : Pure P J f args (.tuple ⟨[.string ⟨⟨s⟩⟩, .int .i64 e]⟩)) (hs : s = s') : Pure P J f args (.tuple ⟨[.string ⟨⟨s'⟩⟩, .int .i64 e]⟩) := hs ▸ h

theorem code_eq (k p w : Int) (g : Bool) : code k p g w = letter k :: (Lib.decDigits p.toNat ++ (if g then [44] else []) ++ (if w = 0 then [] else 58 :: Lib.decDigits w.toNat)) := rfl

theorem code_pure (k p w : Int) (g : Bool) : Pure Tryz.prog J0 7 [fm k p g w] (.tuple ⟨[.string ⟨⟨codeS k p g w⟩⟩, .int .i64 (codeE k p g w)]⟩) := by
  cases hv : valid k p g w with
  | false =>
    have := pure_call bSh1_ok (cd_bad k p w g) ⟨by rw [hv]; rfl, trivial⟩
    unfold codeS codeE
    rw [hv]
    exact this
  | true =>
    have e1 : codeS k p g w = code k p g w := by unfold codeS; rw [hv]; rfl
    have e2 : codeE k p g w = 0 := by unfold codeE; rw [hv]; rfl
    rw [e1, e2, code_eq]
    have h := hv
    unfold valid at h
    simp only [Bool.and_eq_true, decide_eq_true_eq] at h
    obtain ⟨⟨⟨⟨⟨⟨h1, h2⟩, h3⟩, h4⟩, h5⟩, h6⟩, h7⟩ := h
    have hp0 : 0 ≤ p := by unfold Sh.least at h5; split at h5 <;> omega
    have hp1 : p ≤ 30 := by unfold most at h6; split at h6 <;> omega
    have lp := dig_len (n := p.toNat) (by omega)
    have lw := dig_len (n := w.toNat) (by omega)
    have hk : k = 1 ∨ k = 2 ∨ k = 3 ∨ k = 4 ∨ k = 5 := by omega
    by_cases hw : w = 0
    · have hb : (w != 0) = false := by simp [hw]
      rw [if_pos hw]
      rcases hk with rfl | rfl | rfl | rfl | rfl
      · cases g with
        | false => exact tup_cast (pure_call bSh1_ok (cd_1ff p w) (by simp only [allP, hv, hb, and_true, true_and, Bool.not_true]; omega)) (by simp [letter])
        | true => simp [commas] at h7
      · cases g with
        | false => exact tup_cast (pure_call bSh1_ok (cd_2ff p w) (by simp only [allP, hv, hb, and_true, true_and, Bool.not_true]; omega)) (by simp [letter])
        | true => exact tup_cast (pure_call bSh1_ok (cd_2tf p w) (by simp only [allP, hv, hb, List.length_cons, and_true, true_and, Bool.not_true]; omega)) (by simp [letter])
      · cases g with
        | false => exact tup_cast (pure_call bSh1_ok (cd_3ff p w) (by simp only [allP, hv, hb, and_true, true_and, Bool.not_true]; omega)) (by simp [letter])
        | true => simp [commas] at h7
      · cases g with
        | false => exact tup_cast (pure_call bSh1_ok (cd_4ff p w) (by simp only [allP, hv, hb, and_true, true_and, Bool.not_true]; omega)) (by simp [letter])
        | true => exact tup_cast (pure_call bSh1_ok (cd_4tf p w) (by simp only [allP, hv, hb, List.length_cons, and_true, true_and, Bool.not_true]; omega)) (by simp [letter])
      · cases g with
        | false => exact tup_cast (pure_call bSh1_ok (cd_5ff p w) (by simp only [allP, hv, hb, and_true, true_and, Bool.not_true]; omega)) (by simp [letter])
        | true => simp [commas] at h7
    · have hb : (w != 0) = true := by simp [hw]
      rw [if_neg hw]
      rcases hk with rfl | rfl | rfl | rfl | rfl
      · cases g with
        | false => exact tup_cast (pure_call bSh1_ok (cd_1ft p w) (by simp only [allP, hv, hb, List.length_cons, and_true, true_and, Bool.not_true]; omega)) (by simp [letter])
        | true => simp [commas] at h7
      · cases g with
        | false => exact tup_cast (pure_call bSh1_ok (cd_2ft p w) (by simp only [allP, hv, hb, List.length_cons, and_true, true_and, Bool.not_true]; omega)) (by simp [letter])
        | true => exact tup_cast (pure_call bSh1_ok (cd_2tt p w) (by simp only [allP, hv, hb, List.length_cons, List.length_append, List.length_nil, and_true, true_and, Bool.not_true]; omega)) (by simp [letter])
      · cases g with
        | false => exact tup_cast (pure_call bSh1_ok (cd_3ft p w) (by simp only [allP, hv, hb, List.length_cons, and_true, true_and, Bool.not_true]; omega)) (by simp [letter])
        | true => simp [commas] at h7
      · cases g with
        | false => exact tup_cast (pure_call bSh1_ok (cd_4ft p w) (by simp only [allP, hv, hb, List.length_cons, and_true, true_and, Bool.not_true]; omega)) (by simp [letter])
        | true => exact tup_cast (pure_call bSh1_ok (cd_4tt p w) (by simp only [allP, hv, hb, List.length_cons, List.length_append, List.length_nil, and_true, true_and, Bool.not_true]; omega)) (by simp [letter])
      · cases g with
        | false => exact tup_cast (pure_call bSh1_ok (cd_5ft p w) (by simp only [allP, hv, hb, List.length_cons, and_true, true_and, Bool.not_true]; omega)) (by simp [letter])
        | true => simp [commas] at h7

def specCodeF : List Value → Option (Value × List Prop)
  | [.agg ⟨[.int .i64 k, .int .i64 p, .bool g, .int .i64 w]⟩] => some (.tuple ⟨[.string ⟨⟨codeS k p g w⟩⟩, .int .i64 (codeE k p g w)]⟩, [])
  | _ => none

theorem specCodeF_ok (args : List Value) (v : Value) (l : List Prop) (h : specCodeF args = some (v, l)) (_ : allP l) : Pure Tryz.prog J0 7 args v := by
  unfold specCodeF at h
  split at h
  · cases h; exact code_pure _ _ _ _
  · cases h

noncomputable def tabSh2 : Tab := tabAdd 7 specCodeF tabSh1
theorem tabSh2_ok : PcOk Tryz.prog J0 tabSh2 := tabAdd_ok specCodeF_ok tabSh1_ok
noncomputable def bSh2 : Base := ⟨Tryz.prog, J0, false, tabSh2, mtabSh0, 2000, xtN0⟩
theorem bSh2_ok : BaseOk bSh2 := ⟨progOk, tabSh2_ok, mtabSh0_ok, xtN0_ok⟩

end Go.Proofs.YtlbmpbkfkmabaaaGreatDoor

/-
  strings.Index of one byte, strings.Cut, strings.TrimSuffix.
-/
namespace Go.Proofs

def Tryz.lays102_ren : Go.Shelf.Ren := ⟨fun | 102 => 27 | 209 => 53 | 207 => 91 | n => n, fun | 9 => 9 | 4 => 4 | 3 => 3 | n => n, fun | n => n⟩
theorem Tryz.lays102 : Go.Proofs.Lays.n102 Tryz.prog Tryz.lays102_ren where
  mixed := by kernel_rfl
  f102 := Tryz.func27.trans (congrArg some (by kernel_rfl))
  f207 := Tryz.func91.trans (congrArg some (by kernel_rfl))
  f209 := Tryz.func53.trans (congrArg some (by kernel_rfl))
  t3 := Tryz.underlying3
  a3 := Tryz.isAgg3
  z3 := Tryz.sizeOf3
  v3 := Tryz.zeroValue3
  t4 := Tryz.underlying4
  a4 := Tryz.isAgg4
  z4 := Tryz.sizeOf4
  v4 := Tryz.zeroValue4
  t9 := Tryz.underlying9
  a9 := Tryz.isAgg9
  z9 := Tryz.sizeOf9
  v9 := Tryz.zeroValue9

namespace YtlbmpbkfkmabaaaGreatDoor
open Go Go.RowKit Ev Sh

def specIndex1 : List Value → Option (Value × List Prop)
  | [.string ⟨⟨s⟩⟩, .string ⟨⟨[c]⟩⟩] => some (.int .i64 (Lib.indexByte s c), [])
  | _ => none

theorem specIndex1_ok (args : List Value) (v : Value) (l : List Prop) (h : specIndex1 args = some (v, l)) (_ : allP l) : Pure Tryz.prog J0 118 args v := by
  unfold specIndex1 at h
  split at h
  · rename_i s c
    cases h
    refine ⟨rfl, rfl, .inl ⟨enters_of Tryz.func118 (by kernel_rfl) (c := _) rfl, fun w hI => ?_⟩⟩
    exact (Any.strings_Index_one Tryz.lays143 ⟨⟨s⟩⟩ c w).mono fun e w' ⟨h1, h2⟩ => ⟨h1, h2 ▸ Below.refl _ _⟩
  · cases h

theorem specIndex2_ok (args : List Value) (v : Value) (l : List Prop) (h : specIndex1 args = some (v, l)) (_ : allP l) : Pure Tryz.prog J0 90 args v := by
  unfold specIndex1 at h
  split at h
  · rename_i s c
    cases h
    refine ⟨rfl, rfl, .inl ⟨enters_of Tryz.func90 (by kernel_rfl) (c := _) rfl, fun w hI => ?_⟩⟩
    exact (Any.stringslite_Index_one { Tryz.lays143 with } ⟨⟨s⟩⟩ c w).mono fun e w' ⟨h1, h2⟩ => ⟨h1, h2 ▸ Below.refl _ _⟩
  · cases h

/-- A text without an ending. -/
def specTrimS : List Value → Option (Value × List Prop)
  | [.string ⟨⟨s⟩⟩, .string ⟨⟨t⟩⟩] => some (.string ⟨⟨Lib.trimSuffix s t⟩⟩, [s.length ≤ 9223372036854775807])
  | _ => none

theorem specTrimS_ok (args : List Value) (v : Value) (l : List Prop) (h : specTrimS args = some (v, l)) (hl : allP l) : Pure Tryz.prog J0 27 args v := by
  unfold specTrimS at h
  split at h
  · rename_i s t
    cases h
    refine ⟨rfl, rfl, .inl ⟨enters_of Tryz.func27 (by kernel_rfl) (c := _) rfl, fun w hI => ?_⟩⟩
    exact (Any.strings_TrimSuffix Tryz.lays102 ⟨⟨s⟩⟩ ⟨⟨t⟩⟩ w hl.1).mono fun e w' ⟨h1, h2⟩ => ⟨h1, h2 ▸ Below.refl _ _⟩
  · cases h

noncomputable def tabSh3 : Tab := tabAdd 27 specTrimS (tabAdd 90 specIndex1 (tabAdd 118 specIndex1 tabSh2))
theorem tabSh3_ok : PcOk Tryz.prog J0 tabSh3 := tabAdd_ok specTrimS_ok (tabAdd_ok specIndex2_ok (tabAdd_ok specIndex1_ok tabSh2_ok))
noncomputable def bSh3 : Base := ⟨Tryz.prog, J0, false, tabSh3, mtabSh0, 2000, xtN0⟩
theorem bSh3_ok : BaseOk bSh3 := ⟨progOk, tabSh3_ok, mtabSh0_ok, xtN0_ok⟩

end Go.Proofs.YtlbmpbkfkmabaaaGreatDoor

/-
  strings.Cut at a colon (printed by semgen.py, but for the contract).
-/
namespace Go.Proofs.YtlbmpbkfkmabaaaGreatDoor
open Go Go.RowKit Ev Sh
noncomputable abbrev XSh3 := bSh3.cx 12

set_option maxRecDepth 100000 in
theorem ct_t (r : List UInt8) : pureCall XSh3 [] 200 52 [.string ⟨⟨r⟩⟩, .string ⟨⟨[58]⟩⟩] [true] = some (Value.tuple { toList := [Value.string { data := { toList := List.take (Lib.indexByte r 58).toNat r } }, Value.string { data := { toList := List.drop (IntKind.i64.wrap (Lib.indexByte r 58 + Int.ofNat 1)).toNat r } }, Value.bool true] }, [Int.ofNat 0 ≤ IntKind.i64.wrap (Lib.indexByte r 58 + Int.ofNat 1) ∧ IntKind.i64.wrap (Lib.indexByte r 58 + Int.ofNat 1) ≤ Int.ofNat r.length, Int.ofNat 0 ≤ Lib.indexByte r 58 ∧ Lib.indexByte r 58 ≤ Int.ofNat r.length, decide (Int.ofNat 0 ≤ Lib.indexByte r 58) = true]) := by kernel_rfl
set_option maxRecDepth 100000 in
theorem ct_f (r : List UInt8) : pureCall XSh3 [] 200 52 [.string ⟨⟨r⟩⟩, .string ⟨⟨[58]⟩⟩] [false] = some (Value.tuple { toList := [Value.string { data := { toList := r } }, Value.string { data := { toList := [] } }, Value.bool false] }, [decide (Int.ofNat 0 ≤ Lib.indexByte r 58) = false]) := by kernel_rfl

theorem idx_lt (c : UInt8) : ∀ l : List UInt8, Lib.indexByte l c < (l.length : Int)
  | [] => by unfold Lib.indexByte; simp
  | b :: l => by
    have ih := idx_lt c l
    unfold Lib.indexByte
    split
    · simp <;> omega
    · split
      · simp <;> omega
      · simp <;> omega

theorem cut_pure {r : List UInt8} (hr : r.length ≤ 9223372036854775807) : Ev.Pure Tryz.prog J0 52 [.string ⟨⟨r⟩⟩, .string ⟨⟨[58]⟩⟩] (.tuple ⟨[.string ⟨⟨Sh.ahead r⟩⟩, .string ⟨⟨Sh.behind r⟩⟩, .bool (decide (0 ≤ Lib.indexByte r 58))]⟩) := by
  by_cases h : 0 ≤ Lib.indexByte r 58
  · have hlt := idx_lt 58 r
    have hw : IntKind.i64.wrap (Lib.indexByte r 58 + Int.ofNat 1) = Lib.indexByte r 58 + 1 := by
      have := IntKind.wrap_i64 (Lib.indexByte r 58 + Int.ofNat 1)
      simp only [Int.ofNat_eq_natCast] at *
      omega
    have := pure_call bSh3_ok (ct_t r) (by rw [hw]; exact ⟨⟨by simp; omega, by simp; omega⟩, ⟨by simpa using h, by simp; omega⟩, decide_eq_true (by simpa using h), trivial⟩)
    rw [hw] at this
    have e1 : Sh.ahead r = List.take (Lib.indexByte r 58).toNat r := by unfold Sh.ahead; rw [if_pos h]
    have e2 : Sh.behind r = List.drop (Lib.indexByte r 58 + 1).toNat r := by
      unfold Sh.behind
      rw [if_pos h]
      congr 1
      omega
    rw [e1, e2, decide_eq_true h]
    exact this
  · have := pure_call bSh3_ok (ct_f r) ⟨decide_eq_false (by simpa using h), trivial⟩
    have e1 : Sh.ahead r = r := by unfold Sh.ahead; rw [if_neg h]
    have e2 : Sh.behind r = [] := by unfold Sh.behind; rw [if_neg h]
    rw [e1, e2, decide_eq_false h]
    exact this

def specCut1 : List Value → Option (Value × List Prop)
  | [.string ⟨⟨r⟩⟩, .string ⟨⟨[58]⟩⟩] => some (.tuple ⟨[.string ⟨⟨Sh.ahead r⟩⟩, .string ⟨⟨Sh.behind r⟩⟩, .bool (decide (0 ≤ Lib.indexByte r 58))]⟩, [r.length ≤ 9223372036854775807])
  | _ => none

theorem specCut1_ok (args : List Value) (v : Value) (l : List Prop) (h : specCut1 args = some (v, l)) (hl : allP l) : Ev.Pure Tryz.prog J0 52 args v := by
  unfold specCut1 at h
  split at h
  · cases h; exact cut_pure hl.1
  · cases h

noncomputable def tabSh4 : Tab := tabAdd 52 specCut1 tabSh3
theorem tabSh4_ok : PcOk Tryz.prog J0 tabSh4 := tabAdd_ok specCut1_ok tabSh3_ok
noncomputable def bSh4 : Base := ⟨Tryz.prog, J0, false, tabSh4, mtabSh0, 2000, xtN0⟩
theorem bSh4_ok : BaseOk bSh4 := ⟨progOk, tabSh4_ok, mtabSh0_ok, xtN0_ok⟩

end Go.Proofs.YtlbmpbkfkmabaaaGreatDoor
