/-
  number.split and number.read of any text, as contracts.
-/
import Derived.Test.YtaopinmjgjpiiaaGreatDoorNbF
namespace Go.Proofs.YtaopinmjgjpiiaaGreatDoor
open Go Go.RowKit Ev

def neB (t : List UInt8) : Bool := !(t == ([] : List UInt8))
def spB (t : List UInt8) : Bool := match neB t with | true => (match chI t 0 == 45 with | true => true | false => chI t 0 == 43) | false => false
def spP1 (t : List UInt8) : Prop := condP [(6, chI t 0 == 45), (2, neB t)] [(6, false), (2, true)] → (0 : Int) ≤ 0 ∧ (0 : Int).toNat < t.length
def spP2 (t : List UInt8) : Prop := condP [(2, neB t)] [(2, true)] → (0 : Int) ≤ 0 ∧ (0 : Int).toNat < t.length
set_option maxRecDepth 100000 in
theorem sp_y (t : List UInt8) : pureCall XNb3 [] 200 91 [.string ⟨⟨t⟩⟩] [true] = some (.tuple ⟨[.bool (chI t 0 == 45), .string ⟨⟨t.drop 1⟩⟩]⟩, [Int.ofNat 0 ≤ Int.ofNat 1 ∧ Int.ofNat 1 ≤ Int.ofNat t.length, Int.ofNat 0 ≤ Int.ofNat 0 ∧ 0 < t.length, spB t = true, spP1 t, spP2 t]) := by kernel_rfl
set_option maxRecDepth 100000 in
theorem sp_n (t : List UInt8) : pureCall XNb3 [] 200 91 [.string ⟨⟨t⟩⟩] [false] = some (.tuple ⟨[.bool false, .string ⟨⟨t⟩⟩]⟩, [spB t = false, spP1 t, spP2 t]) := by kernel_rfl

/-- The sign ahead of a number's text; the text behind it. -/
def negT (t : List UInt8) : Bool := spB t && (chI t 0 == 45)
def restT (t : List UInt8) : List UInt8 := if spB t = true then t.drop 1 else t
theorem ne_pos {t : List UInt8} (h : neB t = true) : 0 < t.length := by
  cases t with
  | nil => cases h
  | cons c r => simp
theorem split_pure (t : List UInt8) : Ev.Pure Tryz.prog J0 91 [.string ⟨⟨t⟩⟩] (.tuple ⟨[.bool (negT t), .string ⟨⟨restT t⟩⟩]⟩) := by
  have p1 : spP1 t := fun hc => ⟨by decide, ne_pos (by simpa [condP, kvP] using hc.2)⟩
  have p2 : spP2 t := fun hc => ⟨by decide, ne_pos (by simpa [condP, kvP] using hc)⟩
  unfold negT restT
  cases hs : spB t with
  | true =>
    have h0 : 0 < t.length := by
      unfold spB at hs
      cases hn : neB t with
      | true => exact ne_pos hn
      | false => rw [hn] at hs; cases hs
    simp only [if_true, Bool.true_and]
    exact pureN bNb3_ok (sp_y t) ⟨⟨by decide, Int.ofNat_le.2 h0⟩, ⟨Int.le_refl _, h0⟩, hs, p1, p2, trivial⟩
  | false =>
    simp only [Bool.false_eq_true, if_false, Bool.false_and]
    exact pureN bNb3_ok (sp_n t) ⟨hs, p1, p2, trivial⟩
def specSplit : List Value → Option (Value × List Prop)
  | [.string ⟨⟨t⟩⟩] => some (.tuple ⟨[.bool (negT t), .string ⟨⟨restT t⟩⟩]⟩, [])
  | _ => none
theorem specSplit_ok (args : List Value) (v : Value) (l : List Prop) (h : specSplit args = some (v, l)) (_ : allP l) : Ev.Pure Tryz.prog J0 91 args v := by
  unfold specSplit at h
  split at h
  · cases h; exact split_pure _
  · cases h
noncomputable def tabNb4 : Tab := tabAdd 91 specSplit tabNb3
theorem tabNb4_ok : PcOk Tryz.prog J0 tabNb4 := tabAdd_ok specSplit_ok tabNb3_ok
noncomputable def bNb4 : Base := ⟨Tryz.prog, J0, false, tabNb4, mtab0, 2000, xtN0⟩
theorem bNb4_ok : BaseOk bNb4 := ⟨progOk, tabNb4_ok, mtab0_ok _ _, xtN0_ok⟩
noncomputable abbrev XNb4 := bNb4.cx 12

abbrev nanT : List UInt8 := [78, 97, 78]
abbrev infT : List UInt8 := [73, 110, 102]
def rdT (neg : Bool) (p : Value) (o : Nat) (i : Bool) (e : Int) : Value := .tuple ⟨[.bool neg, p, .float .f64 o, .bool i, .int .i64 e]⟩
abbrev pc0 : Value := pcV false [] 0 0
noncomputable abbrev pcT (t : List UInt8) : Value := pcV (bareH t) (bareS t) (bareX t) (bareN t)
def formB (t : List UInt8) : Bool := match (bareN t : Int) == 0 with | true => true | false => (bareN t : Int) != (t.length : Int)
section
variable (t : List UInt8)
set_option maxRecDepth 100000 in
theorem re_long : pureCall XNb4 [] 200 44 [.string ⟨⟨t⟩⟩] [true] = some (rdT false pc0 0 false 2, [decide (Int.ofNat 8192 < Int.ofNat t.length) = true]) := by kernel_rfl
set_option maxRecDepth 100000 in
theorem re_nan : pureCall XNb4 [] 200 44 [.string ⟨⟨t⟩⟩] [false, true] = some (rdT false pc0 9221120237041090560 true 0, [(t == nanT) = true, decide (Int.ofNat 8192 < Int.ofNat t.length) = false]) := by kernel_rfl
set_option maxRecDepth 100000 in
theorem re_ninf : pureCall XNb4 [] 200 44 [.string ⟨⟨t⟩⟩] [false, false, true, true] = some (rdT (negT t) pc0 18442240474082181120 true 0, [negT t = true, (restT t == infT) = true, (t == nanT) = false, decide (Int.ofNat 8192 < Int.ofNat t.length) = false]) := by kernel_rfl
set_option maxRecDepth 100000 in
theorem re_pinf : pureCall XNb4 [] 200 44 [.string ⟨⟨t⟩⟩] [false, false, true, false] = some (rdT (negT t) pc0 9218868437227405312 true 0, [negT t = false, (restT t == infT) = true, (t == nanT) = false, decide (Int.ofNat 8192 < Int.ofNat t.length) = false]) := by kernel_rfl
set_option maxRecDepth 100000 in
theorem re_form : pureCall XNb4 [] 200 44 [.string ⟨⟨t⟩⟩] [false, false, false, true] = some (rdT false (pcT (restT t)) 0 false 3, [formB (restT t) = true, (restT t).length ≤ 140737488351232, (restT t == infT) = false, (t == nanT) = false, decide (Int.ofNat 8192 < Int.ofNat t.length) = false]) := by kernel_rfl
set_option maxRecDepth 100000 in
theorem re_ok : pureCall XNb4 [] 200 44 [.string ⟨⟨t⟩⟩] [false, false, false, false] = some (rdT (negT t) (pcT (restT t)) 0 false 0, [formB (restT t) = false, (restT t).length ≤ 140737488351232, (restT t == infT) = false, (t == nanT) = false, decide (Int.ofNat 8192 < Int.ofNat t.length) = false]) := by kernel_rfl
end

/-- What number.read answers: the sign, the piece, the number that is told already, whether it is, the error. -/
noncomputable def rdV (t : List UInt8) : Value :=
  if 8192 < t.length then rdT false pc0 0 false 2
  else if t = nanT then rdT false pc0 9221120237041090560 true 0
  else if restT t = infT then rdT (negT t) pc0 (if negT t = true then 18442240474082181120 else 9218868437227405312) true 0
  else if formB (restT t) = true then rdT false (pcT (restT t)) 0 false 3
  else rdT (negT t) (pcT (restT t)) 0 false 0

theorem read_num (t : List UInt8) : Ev.Pure Tryz.prog J0 44 [.string ⟨⟨t⟩⟩] (rdV t) := by
  unfold rdV
  by_cases hl : 8192 < t.length
  · rw [if_pos hl]
    exact pureN bNb4_ok (re_long t) ⟨decide_eq_true (Int.ofNat_lt.2 hl), trivial⟩
  rw [if_neg hl]
  have hd : decide (Int.ofNat 8192 < Int.ofNat t.length) = false := decide_eq_false fun h => hl (Int.ofNat_lt.1 h)
  by_cases hn : t = nanT
  · rw [if_pos hn]
    exact pureN bNb4_ok (re_nan t) ⟨by rw [hn]; exact beq_self_eq_true _, hd, trivial⟩
  rw [if_neg hn]
  have hn' : (t == nanT) = false := beq_false_of_ne hn
  have hr : (restT t).length ≤ 140737488351232 := by
    unfold restT
    split
    · rw [List.length_drop]; omega
    · omega
  by_cases hi : restT t = infT
  · rw [if_pos hi]
    have hi' : (restT t == infT) = true := by rw [hi]; exact beq_self_eq_true _
    cases hg : negT t with
    | true =>
      have := pureN bNb4_ok (re_ninf t) ⟨hg, hi', hn', hd, trivial⟩
      rw [hg] at this
      exact this
    | false =>
      have := pureN bNb4_ok (re_pinf t) ⟨hg, hi', hn', hd, trivial⟩
      rw [hg] at this
      exact this
  rw [if_neg hi]
  have hi' : (restT t == infT) = false := beq_false_of_ne hi
  cases hf : formB (restT t) with
  | true =>
    simp only [if_true]
    exact pureN bNb4_ok (re_form t) ⟨hf, hr, hi', hn', hd, trivial⟩
  | false =>
    simp only [Bool.false_eq_true, if_false]
    exact pureN bNb4_ok (re_ok t) ⟨hf, hr, hi', hn', hd, trivial⟩

end Go.Proofs.YtaopinmjgjpiiaaGreatDoor
