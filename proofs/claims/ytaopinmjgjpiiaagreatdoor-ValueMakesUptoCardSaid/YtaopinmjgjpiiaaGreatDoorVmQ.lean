/-
  The reference's UTF8 (layer 12) answers as utf8.ValidString does.
-/
import Derived.Test.YtaopinmjgjpiiaaGreatDoorVmP
import Derived.Lib.ValidLaws
namespace Go.Proofs.YtaopinmjgjpiiaaGreatDoor
open Go Go.RowKit Ev VaS

namespace VaS
/-- How far the reference's round goes; none: it refuses. -/
def nextN (n b0 b1 b2 b3 : Nat) : Option Nat :=
  if b0 < 128 then some 1
  else if b0 < 194 then none
  else if b0 < 224 then (if 1 < n ∧ 128 ≤ b1 ∧ b1 ≤ 191 then some 2 else none)
  else if b0 < 240 then
    (if (1 < n ∧ 128 ≤ b1 ∧ b1 ≤ 191) ∧ (2 < n ∧ 128 ≤ b2 ∧ b2 ≤ 191) ∧ (2048 ≤ ((b0 - 224) * 64 + b1 - 128) * 64 + b2 - 128 ∧ ¬ (55296 ≤ ((b0 - 224) * 64 + b1 - 128) * 64 + b2 - 128 ∧ ((b0 - 224) * 64 + b1 - 128) * 64 + b2 - 128 < 57344)) then some 3 else none)
  else if b0 < 245 then
    (if (1 < n ∧ 128 ≤ b1 ∧ b1 ≤ 191) ∧ (2 < n ∧ 128 ≤ b2 ∧ b2 ≤ 191) ∧ (3 < n ∧ 128 ≤ b3 ∧ b3 ≤ 191) ∧ (65536 ≤ (((b0 - 240) * 64 + b1 - 128) * 64 + b2 - 128) * 64 + b3 - 128 ∧ (((b0 - 240) * 64 + b1 - 128) * 64 + b2 - 128) * 64 + b3 - 128 ≤ 1114111) then some 4 else none)
  else none

theorem checkN2 (n b1 b2 b3 : Nat) : Lib.checkN n b1 b2 b3 2 128 191 = if 1 < n ∧ 128 ≤ b1 ∧ b1 ≤ 191 then some 2 else none := by
  unfold Lib.checkN
  rw [if_pos rfl]
  split <;> split <;> first | rfl | (exfalso; omega)
theorem checkN3 (n b1 b2 b3 lo hi : Nat) : Lib.checkN n b1 b2 b3 3 lo hi = if (2 < n ∧ lo ≤ b1 ∧ b1 ≤ hi) ∧ 128 ≤ b2 ∧ b2 ≤ 191 then some 3 else none := by
  unfold Lib.checkN
  rw [if_neg (by decide), if_pos rfl]
  split <;> split <;> first | rfl | (exfalso; omega)
theorem checkN4 (n b1 b2 b3 lo hi : Nat) : Lib.checkN n b1 b2 b3 4 lo hi = if (3 < n ∧ lo ≤ b1 ∧ b1 ≤ hi) ∧ (128 ≤ b2 ∧ b2 ≤ 191) ∧ 128 ≤ b3 ∧ b3 ≤ 191 then some 4 else none := by
  unfold Lib.checkN
  rw [if_neg (by decide), if_neg (by decide), if_pos rfl]
  split <;> split <;> first | rfl | (exfalso; omega)
theorem checkN1 (n b1 b2 b3 lo hi : Nat) : Lib.checkN n b1 b2 b3 1 lo hi = none := by
  unfold Lib.checkN
  rfl

theorem ite_same {P Q : Prop} [Decidable P] [Decidable Q] {x y : Option Nat} (h : P ↔ Q) : (if P then x else y) = if Q then x else y := by
  by_cases c : P
  · rw [if_pos c, if_pos (h.1 c)]
  · rw [if_neg c, if_neg (fun q => c (h.2 q))]

theorem check_next (n b0 b1 b2 b3 : Nat) (h0 : 128 ≤ b0) (h0' : b0 < 256) : Lib.checkN n b1 b2 b3 (Lib.firstT b0 % 8) (Lib.accLo (Lib.firstT b0 / 16)) (Lib.accHi (Lib.firstT b0 / 16)) = nextN n b0 b1 b2 b3 := by
  have a : ¬ b0 < 128 := by omega
  unfold nextN
  rw [if_neg a]
  by_cases c0 : b0 < 194
  · rw [if_pos c0, show Lib.firstT b0 = 241 by simp [Lib.firstT, a, c0]]
    exact checkN1 ..
  rw [if_neg c0]
  by_cases c1 : b0 < 224
  · rw [if_pos c1, show Lib.firstT b0 = 2 by simp [Lib.firstT, a, c0, c1]]
    exact checkN2 ..
  rw [if_neg c1]
  by_cases c2 : b0 < 240
  · rw [if_pos c2]
    by_cases d1 : b0 = 224
    · subst d1
      exact (checkN3 ..).trans (ite_same (by simp only [show Lib.accLo (Lib.firstT 224 / 16) = 160 from rfl, show Lib.accHi (Lib.firstT 224 / 16) = 191 from rfl]; omega))
    by_cases d2 : b0 < 237
    · rw [show Lib.firstT b0 = 3 by simp [Lib.firstT, a, c0, c1, d1, d2]]
      exact (checkN3 ..).trans (ite_same (by simp only [show Lib.accLo (3 / 16) = 128 from rfl, show Lib.accHi (3 / 16) = 191 from rfl]; omega))
    by_cases d3 : b0 = 237
    · subst d3
      exact (checkN3 ..).trans (ite_same (by simp only [show Lib.accLo (Lib.firstT 237 / 16) = 128 from rfl, show Lib.accHi (Lib.firstT 237 / 16) = 159 from rfl]; omega))
    · rw [show Lib.firstT b0 = 3 by simp [Lib.firstT, a, c0, c1, d1, d2, d3, c2]]
      exact (checkN3 ..).trans (ite_same (by simp only [show Lib.accLo (3 / 16) = 128 from rfl, show Lib.accHi (3 / 16) = 191 from rfl]; omega))
  rw [if_neg c2]
  have a1 : b0 ≠ 224 := by omega
  have a2 : ¬ b0 < 237 := by omega
  have a3 : b0 ≠ 237 := by omega
  by_cases c3 : b0 < 245
  · rw [if_pos c3]
    by_cases d1 : b0 = 240
    · subst d1
      exact (checkN4 ..).trans (ite_same (by simp only [show Lib.accLo (Lib.firstT 240 / 16) = 144 from rfl, show Lib.accHi (Lib.firstT 240 / 16) = 191 from rfl]; omega))
    by_cases d2 : b0 < 244
    · rw [show Lib.firstT b0 = 4 by simp [Lib.firstT, a, c0, c1, a1, a2, a3, c2, d1, d2]]
      exact (checkN4 ..).trans (ite_same (by simp only [show Lib.accLo (4 / 16) = 128 from rfl, show Lib.accHi (4 / 16) = 191 from rfl]; omega))
    · have d3 : b0 = 244 := by omega
      subst d3
      exact (checkN4 ..).trans (ite_same (by simp only [show Lib.accLo (Lib.firstT 244 / 16) = 128 from rfl, show Lib.accHi (Lib.firstT 244 / 16) = 143 from rfl]; omega))
  · rw [if_neg c3, show Lib.firstT b0 = 241 by simp [Lib.firstT, a, c0, c1, a1, a2, a3, c2, show b0 ≠ 240 by omega, show ¬ b0 < 244 by omega, show b0 ≠ 244 by omega]]
    exact checkN1 ..

abbrev bN (s : List UInt8) (p : Nat) : Nat := (s.getD p 0).toNat
/-- The round at place i. -/
def nextS (s : List UInt8) (i : Nat) : Option Nat := nextN (s.length - i) (bN s i) (bN s (i + 1)) (bN s (i + 2)) (bN s (i + 3))

theorem valid_next (s : List UInt8) (i : Nat) (hi : i < s.length) : Lib.validD (s.drop i) = match nextS s i with | none => false | some k => Lib.validD (s.drop (i + k)) := by
  have hne : s.drop i ≠ [] := fun h => by have := congrArg List.length h; rw [List.length_drop] at this; simp at this; omega
  have e : ∀ k, ((s.drop i).getD k 0) = s.getD (i + k) 0 := fun k => by simp [List.getD_eq_getElem?_getD, List.getElem?_drop]
  unfold nextS
  by_cases h : bN s i < 128
  · have hc : s.drop i = s.getD i 0 :: s.drop (i + 1) := by
      rw [← List.getElem_cons_drop (h := hi)]
      congr 1
      simp [List.getD_eq_getElem?_getD, hi]
    rw [show nextN (s.length - i) (bN s i) (bN s (i + 1)) (bN s (i + 2)) (bN s (i + 3)) = some 1 by unfold nextN; rw [if_pos h]]
    rw [hc]
    exact Lib.validD_cons _ _ h
  · rw [Lib.validD_lead _ hne (by rw [e 0]; exact Nat.le_of_not_lt h), check_next _ _ _ _ _ (by rw [e 0]; exact Nat.le_of_not_lt h) (UInt8.toNat_lt _)]
    rw [e 0, e 1, e 2, e 3, List.length_drop]
    simp only [List.drop_drop]
    rfl

theorem next_in {s : List UInt8} {i k : Nat} (hi : i < s.length) (h : nextS s i = some k) : 1 ≤ k ∧ i + k ≤ s.length := by
  unfold nextS nextN at h
  repeat' split at h
  all_goals first | (have e := Option.some.inj h; omega) | (cases h)
end VaS

theorem wrapN {n : Nat} (h : n ≤ 9223372036854775807) : w6 (n : Int) = (n : Int) := by
  have := IntKind.wrap_i64 (n : Int)
  unfold w6
  omega
theorem byU_nat (s : List UInt8) (p : Nat) : byU s (p : Int) = (bN s p : Int) := rfl
theorem bN_lt (s : List UInt8) (p : Nat) : bN s p < 256 := UInt8.toNat_lt _
theorem c0U_nat (s : List UInt8) (i : Nat) : c0U s (i : Int) = (bN s i : Int) := by
  unfold c0U
  rw [byU_nat]
  exact wrapN (by have := bN_lt s i; omega)
theorem p1U_nat {i : Nat} (h : i + 1 ≤ 9223372036854775807) : p1U (i : Int) = ((i + 1 : Nat) : Int) := by
  show w6 ((i : Int) + 1) = _
  rw [show ((i : Int) + 1) = ((i + 1 : Nat) : Int) by omega]
  exact wrapN h
theorem p2U_nat {i : Nat} (h : i + 2 ≤ 9223372036854775807) : p2U (i : Int) = ((i + 2 : Nat) : Int) := by
  show w6 ((i : Int) + w6 (1 + 1)) = _
  rw [show w6 (1 + 1) = (2 : Int) by decide, show ((i : Int) + 2) = ((i + 2 : Nat) : Int) by omega]
  exact wrapN h
theorem p3U_nat {i : Nat} (h : i + 3 ≤ 9223372036854775807) : p3U (i : Int) = ((i + 3 : Nat) : Int) := by
  show w6 ((i : Int) + w6 (w6 (1 + 1) + 1)) = _
  rw [show w6 (w6 (1 + 1) + 1) = (3 : Int) by decide, show ((i : Int) + 3) = ((i + 3 : Nat) : Int) by omega]
  exact wrapN h
theorem step_nat {i k : Nat} (h1 : i + 1 ≤ 9223372036854775807) (h : i + 1 + k ≤ 9223372036854775807) : w6 (w6 ((i : Int) + 1) + (k : Int)) = ((i + (k + 1) : Nat) : Int) := by
  rw [show w6 ((i : Int) + 1) = ((i + 1 : Nat) : Int) from p1U_nat h1, show (((i + 1 : Nat) : Int) + (k : Int)) = ((i + 1 + k : Nat) : Int) by omega, wrapN h]
  omega
theorem leadU_nat (s : List UInt8) (i lo hi : Nat) : leadU s (i : Int) (lo : Int) (hi : Int) = decide (lo ≤ bN s i ∧ bN s i < hi) := by
  unfold leadU
  rw [c0U_nat]
  by_cases c : lo ≤ bN s i
  · rw [decide_eq_true (show (bN s i : Int) ≥ (lo : Int) by omega)]
    show decide ((bN s i : Int) < (hi : Int)) = _
    exact decide_eq_decide.2 (by omega)
  · rw [decide_eq_false (show ¬ (bN s i : Int) ≥ (lo : Int) by omega)]
    exact (decide_eq_false (show ¬ (lo ≤ bN s i ∧ bN s i < hi) by omega)).symm
theorem inS_nat {s : List UInt8} {p : Nat} (h : p < s.length) : inS s (p : Int) := ⟨by omega, by rw [Int.toNat_natCast]; exact h⟩
def fineU (s : List UInt8) (p : Nat) : Prop := p < s.length ∧ 128 ≤ bN s p ∧ bN s p ≤ 191
theorem badU_ok {s : List UInt8} {p : Nat} (h : fineU s p) : badU s (p : Int) = false := by
  unfold badU
  obtain ⟨h1, h2, h3⟩ := h
  rw [byU_nat, decide_eq_false (show ¬ (p : Int) ≥ (s.length : Int) by omega), decide_eq_false (show ¬ (bN s p : Int) < 128 by omega)]
  exact decide_eq_false (by omega)
theorem badU_no {s : List UInt8} {p : Nat} (h : ¬ fineU s p) : badU s (p : Int) = true := by
  unfold badU
  rw [byU_nat]
  by_cases c1 : p < s.length
  · rw [decide_eq_false (show ¬ (p : Int) ≥ (s.length : Int) by omega)]
    by_cases c2 : bN s p < 128
    · rw [decide_eq_true (show (bN s p : Int) < 128 by omega)]
    · rw [decide_eq_false (show ¬ (bN s p : Int) < 128 by omega)]
      refine decide_eq_true ?_
      have : ¬ bN s p ≤ 191 := fun h' => h ⟨c1, by omega, h'⟩
      omega
  · rw [decide_eq_true (show (p : Int) ≥ (s.length : Int) by omega)]
theorem obU_all {s : List UInt8} {p : Nat} {r : List Prop} (hr : allP r) : allP (obU s (p : Int) r) := by
  unfold obU
  by_cases c : p < s.length
  · exact ⟨fun _ => inS_nat c, fun _ => inS_nat c, rfl, hr⟩
  · rw [decide_eq_true (show (p : Int) ≥ (s.length : Int) by omega)]
    exact ⟨fun h => Bool.noConfusion h, fun h => Bool.noConfusion h, rfl, hr⟩
theorem okU_all {s : List UInt8} {p : Nat} {r : List Prop} (h : fineU s p) (hr : allP r) : allP (okU s (p : Int) r) := ⟨inS_nat h.1, badU_ok h, obU_all hr⟩
theorem noU_all {s : List UInt8} {p : Nat} {r : List Prop} (h : ¬ fineU s p) (hr : allP r) : allP (noU s (p : Int) r) := ⟨badU_no h, obU_all hr⟩
theorem nxU_nat {s : List UInt8} {c p : Nat} (hc : c ≤ 1073741824) (hb : 128 ≤ bN s p) : nxU s (c : Int) (p : Int) = ((c * 64 + bN s p - 128 : Nat) : Int) := by
  have := bN_lt s p
  unfold nxU
  rw [byU_nat, wrapN (show bN s p ≤ _ by omega), show ((c : Int) * 64) = ((c * 64 : Nat) : Int) by omega, wrapN (show c * 64 ≤ _ by omega), show (((c * 64 : Nat) : Int) + (bN s p : Int)) = ((c * 64 + bN s p : Nat) : Int) by omega, wrapN (show c * 64 + bN s p ≤ _ by omega),
    show (((c * 64 + bN s p : Nat) : Int) - 128) = ((c * 64 + bN s p - 128 : Nat) : Int) by omega]
  exact wrapN (by omega)
theorem subU_nat {s : List UInt8} {i k : Nat} (h : k ≤ bN s i) : w6 (c0U s (i : Int) - (k : Int)) = ((bN s i - k : Nat) : Int) := by
  have := bN_lt s i
  rw [c0U_nat, show ((bN s i : Int) - (k : Int)) = ((bN s i - k : Nat) : Int) by omega]
  exact wrapN (by omega)
theorem rngU_nat (c least : Nat) : rngU (c : Int) (least : Int) = decide (c < least ∨ c > 1114111 ∨ (55296 ≤ c ∧ c < 57344)) := by
  unfold rngU
  by_cases c1 : c < least
  · rw [decide_eq_true (show (c : Int) < (least : Int) by omega), decide_eq_true (show c < least ∨ c > 1114111 ∨ (55296 ≤ c ∧ c < 57344) by omega)]
  · rw [decide_eq_false (show ¬ (c : Int) < (least : Int) by omega)]
    by_cases c2 : c > 1114111
    · rw [decide_eq_true (show (c : Int) > 1114111 by omega), decide_eq_true (show c < least ∨ c > 1114111 ∨ (55296 ≤ c ∧ c < 57344) by omega)]
    · rw [decide_eq_false (show ¬ (c : Int) > 1114111 by omega)]
      by_cases c3 : 55296 ≤ c
      · rw [decide_eq_true (show (c : Int) ≥ 55296 by omega)]
        show decide ((c : Int) < 57344) = _
        exact decide_eq_decide.2 (by omega)
      · rw [decide_eq_false (show ¬ (c : Int) ≥ 55296 by omega)]
        exact (decide_eq_false (show ¬ (c < least ∨ c > 1114111 ∨ (55296 ≤ c ∧ c < 57344)) by omega)).symm

section
variable {s : List UInt8} {i : Nat}
theorem l0U_all (hi : i < s.length) : allP (l0U s (i : Int)) := ⟨inS_nat hi, decide_eq_true (by omega), trivial⟩
theorem c128 (h : ¬ bN s i < 128) : decide (c0U s (i : Int) < 128) = false := by
  rw [c0U_nat]
  exact decide_eq_false (by omega)
theorem l2U_all (hi : i < s.length) (h1 : 194 ≤ bN s i) (h2 : bN s i < 224) : allP (l2U s (i : Int)) :=
  ⟨(leadU_nat s i 194 224).trans (decide_eq_true ⟨h1, h2⟩), c128 (by omega), l0U_all hi⟩
theorem l3U_all (hi : i < s.length) (h1 : 224 ≤ bN s i) (h2 : bN s i < 240) : allP (l3U s (i : Int)) :=
  ⟨(leadU_nat s i 224 240).trans (decide_eq_true ⟨h1, h2⟩), (leadU_nat s i 194 224).trans (decide_eq_false (by omega)), c128 (by omega), l0U_all hi⟩
theorem l4U_all (hi : i < s.length) (h1 : 240 ≤ bN s i) (h2 : bN s i < 245) : allP (l4U s (i : Int)) :=
  ⟨(leadU_nat s i 240 245).trans (decide_eq_true ⟨h1, h2⟩), (leadU_nat s i 224 240).trans (decide_eq_false (by omega)), (leadU_nat s i 194 224).trans (decide_eq_false (by omega)), c128 (by omega), l0U_all hi⟩

theorem c2U_nat (hi : i + 1 ≤ 9223372036854775807) (h0 : 192 ≤ bN s i) (h1 : 128 ≤ bN s (i + 1)) : c2U s (i : Int) = (((bN s i - 192) * 64 + bN s (i + 1) - 128 : Nat) : Int) := by
  have := bN_lt s i
  unfold c2U
  rw [show w6 (c0U s (i : Int) - 192) = ((bN s i - 192 : Nat) : Int) from subU_nat h0, p1U_nat hi, nxU_nat (by omega) h1]
theorem c3U_nat (hi : i + 2 ≤ 9223372036854775807) (h0 : 224 ≤ bN s i) (h1 : 128 ≤ bN s (i + 1)) (h2 : 128 ≤ bN s (i + 2)) : c3U s (i : Int) = ((((bN s i - 224) * 64 + bN s (i + 1) - 128) * 64 + bN s (i + 2) - 128 : Nat) : Int) := by
  have := bN_lt s i
  have := bN_lt s (i + 1)
  unfold c3U
  rw [show w6 (c0U s (i : Int) - 224) = ((bN s i - 224 : Nat) : Int) from subU_nat h0, p1U_nat (by omega), p2U_nat hi, nxU_nat (by omega) h1, nxU_nat (by omega) h2]
theorem c4U_nat (hi : i + 3 ≤ 9223372036854775807) (h0 : 240 ≤ bN s i) (h1 : 128 ≤ bN s (i + 1)) (h2 : 128 ≤ bN s (i + 2)) (h3 : 128 ≤ bN s (i + 3)) : c4U s (i : Int) = (((((bN s i - 240) * 64 + bN s (i + 1) - 128) * 64 + bN s (i + 2) - 128) * 64 + bN s (i + 3) - 128 : Nat) : Int) := by
  have := bN_lt s i
  have := bN_lt s (i + 1)
  have := bN_lt s (i + 2)
  unfold c4U
  rw [show w6 (c0U s (i : Int) - 240) = ((bN s i - 240 : Nat) : Int) from subU_nat h0, p1U_nat (by omega), p2U_nat (by omega), p3U_nat hi, nxU_nat (by omega) h1, nxU_nat (by omega) h2, nxU_nat (by omega) h3]

/-- A round that goes on. -/
theorem u_some (hs : s.length ≤ 9223372036854775807) (hi : i < s.length) {k : Nat} (h : nextS s i = some k) : StepU s (i : Int) .normal (TU8 (SU8 s) s ((i + k : Nat) : Int)) := by
  have b0 := bN_lt s i
  have b1 := bN_lt s (i + 1)
  have b2 := bN_lt s (i + 2)
  have b3 := bN_lt s (i + 3)
  unfold nextS nextN at h
  by_cases c0 : bN s i < 128
  · rw [if_pos c0] at h
    obtain rfl := Option.some.inj h
    have := u_asc s (i : Int) ⟨by
      rw [c0U_nat]
      exact (rngU_nat (bN s i) 0).trans (decide_eq_false (by omega)), rfl, by rw [c0U_nat]; exact decide_eq_true (by omega), l0U_all hi⟩
    rw [show w6 (w6 ((i : Int) + 1) + 0) = ((i + 1 : Nat) : Int) from step_nat (k := 0) (by omega) (by omega)] at this
    exact this
  rw [if_neg c0] at h
  by_cases c1 : bN s i < 194
  · rw [if_pos c1] at h; cases h
  rw [if_neg c1] at h
  by_cases c2 : bN s i < 224
  · rw [if_pos c2] at h
    split at h
    · rename_i g
      obtain rfl := Option.some.inj h
      have := u_2ok s (i : Int) ⟨by
        rw [c2U_nat (by omega) (by omega) g.2.1]
        exact (rngU_nat _ 128).trans (decide_eq_false (by omega)), rfl, by
        rw [p1U_nat (by omega)]
        exact okU_all ⟨by omega, g.2⟩ (l2U_all hi (by omega) c2)⟩
      rw [show w6 (w6 ((i : Int) + 1) + 1) = ((i + 2 : Nat) : Int) from step_nat (k := 1) (by omega) (by omega)] at this
      exact this
    · cases h
  rw [if_neg c2] at h
  by_cases c3 : bN s i < 240
  · rw [if_pos c3] at h
    split at h
    · rename_i g
      obtain ⟨g1, g2, g3⟩ := g
      obtain rfl := Option.some.inj h
      have := u_3ok s (i : Int) ⟨by
        rw [c3U_nat (by omega) (by omega) g1.2.1 g2.2.1]
        exact (rngU_nat _ 2048).trans (decide_eq_false (by omega)), rfl, by
        rw [p1U_nat (by omega), p2U_nat (by omega)]
        exact okU_all ⟨by omega, g2.2⟩ (okU_all ⟨by omega, g1.2⟩ (l3U_all hi (by omega) c3))⟩
      rw [show w6 (w6 ((i : Int) + 1) + 2) = ((i + 3 : Nat) : Int) from step_nat (k := 2) (by omega) (by omega)] at this
      exact this
    · cases h
  rw [if_neg c3] at h
  by_cases c4 : bN s i < 245
  · rw [if_pos c4] at h
    split at h
    · rename_i g
      obtain ⟨g1, g2, g3, g4⟩ := g
      obtain rfl := Option.some.inj h
      have := u_4ok s (i : Int) ⟨by
        rw [c4U_nat (by omega) (by omega) g1.2.1 g2.2.1 g3.2.1]
        exact (rngU_nat _ 65536).trans (decide_eq_false (by omega)), rfl, by
        rw [p1U_nat (by omega), p2U_nat (by omega), p3U_nat (by omega)]
        exact okU_all ⟨by omega, g3.2⟩ (okU_all ⟨by omega, g2.2⟩ (okU_all ⟨by omega, g1.2⟩ (l4U_all hi (by omega) c4)))⟩
      rw [show w6 (w6 ((i : Int) + 1) + 3) = ((i + 4 : Nat) : Int) from step_nat (k := 3) (by omega) (by omega)] at this
      exact this
    · cases h
  rw [if_neg c4] at h
  cases h

theorem none_lead (hi : i < s.length) (h0 : ¬ bN s i < 128) (h : bN s i < 194 ∨ 245 ≤ bN s i) : StepU s (i : Int) .ret (RU8 (SU8 s)) :=
  u_none s (i : Int) ⟨(leadU_nat s i 240 245).trans (decide_eq_false (by omega)), (leadU_nat s i 224 240).trans (decide_eq_false (by omega)), (leadU_nat s i 194 224).trans (decide_eq_false (by omega)), c128 h0, l0U_all hi⟩

/-- A round that refuses. -/
theorem u_no (hs : s.length ≤ 9223372036854775807) (hi : i < s.length) (h : nextS s i = none) : StepU s (i : Int) .ret (RU8 (SU8 s)) := by
  have b0 := bN_lt s i
  have b1 := bN_lt s (i + 1)
  have b2 := bN_lt s (i + 2)
  have b3 := bN_lt s (i + 3)
  unfold nextS nextN at h
  by_cases c0 : bN s i < 128
  · rw [if_pos c0] at h; cases h
  rw [if_neg c0] at h
  by_cases c1 : bN s i < 194
  · exact none_lead hi c0 (.inl c1)
  rw [if_neg c1] at h
  have q1 := p1U_nat (i := i) (by omega)
  by_cases c2 : bN s i < 224
  · rw [if_pos c2] at h
    split at h
    · cases h
    · rename_i g
      refine u_21 s (i : Int) ?_
      rw [q1]
      exact noU_all (fun f => g ⟨by have := f.1; omega, f.2⟩) (l2U_all hi (by omega) c2)
  rw [if_neg c2] at h
  by_cases c3 : bN s i < 240
  · rw [if_pos c3] at h
    split at h
    · cases h
    · rename_i g
      by_cases f1 : fineU s (i + 1)
      · have q2 := p2U_nat (i := i) (by have := f1.1; omega)
        have o1 := okU_all f1 (l3U_all hi (by omega) c3)
        by_cases f2 : fineU s (i + 2)
        · refine u_3far s (i : Int) ⟨?_, rfl, ?_⟩
          · rw [c3U_nat (by have := f1.1; omega) (by omega) f1.2.1 f2.2.1]
            refine (rngU_nat _ 2048).trans (decide_eq_true ?_)
            have g' : ¬ (2048 ≤ ((bN s i - 224) * 64 + bN s (i + 1) - 128) * 64 + bN s (i + 2) - 128 ∧ ¬ (55296 ≤ ((bN s i - 224) * 64 + bN s (i + 1) - 128) * 64 + bN s (i + 2) - 128 ∧ ((bN s i - 224) * 64 + bN s (i + 1) - 128) * 64 + bN s (i + 2) - 128 < 57344)) :=
              fun q => g ⟨⟨by have := f1.1; omega, f1.2⟩, ⟨by have := f2.1; omega, f2.2⟩, q⟩
            omega
          · rw [q1, q2]
            exact okU_all f2 o1
        · refine u_32 s (i : Int) ?_
          rw [q1, q2]
          exact noU_all f2 o1
      · refine u_31 s (i : Int) ?_
        rw [q1]
        exact noU_all f1 (l3U_all hi (by omega) c3)
  rw [if_neg c3] at h
  by_cases c4 : bN s i < 245
  · rw [if_pos c4] at h
    split at h
    · cases h
    · rename_i g
      by_cases f1 : fineU s (i + 1)
      · have q2 := p2U_nat (i := i) (by have := f1.1; omega)
        have o1 := okU_all f1 (l4U_all hi (by omega) c4)
        by_cases f2 : fineU s (i + 2)
        · have q3 := p3U_nat (i := i) (by have := f2.1; omega)
          have o2 := okU_all f2 o1
          by_cases f3 : fineU s (i + 3)
          · refine u_4far s (i : Int) ⟨?_, rfl, ?_⟩
            · rw [c4U_nat (by have := f2.1; omega) (by omega) f1.2.1 f2.2.1 f3.2.1]
              refine (rngU_nat _ 65536).trans (decide_eq_true ?_)
              have g' : ¬ (65536 ≤ (((bN s i - 240) * 64 + bN s (i + 1) - 128) * 64 + bN s (i + 2) - 128) * 64 + bN s (i + 3) - 128 ∧ (((bN s i - 240) * 64 + bN s (i + 1) - 128) * 64 + bN s (i + 2) - 128) * 64 + bN s (i + 3) - 128 ≤ 1114111) :=
                fun q => g ⟨⟨by have := f1.1; omega, f1.2⟩, ⟨by have := f2.1; omega, f2.2⟩, ⟨by have := f3.1; omega, f3.2⟩, q⟩
              omega
            · rw [q1, q2, q3]
              exact okU_all f3 o2
          · refine u_43 s (i : Int) ?_
            rw [q1, q2, q3]
            exact noU_all f3 o2
        · refine u_42 s (i : Int) ?_
          rw [q1, q2]
          exact noU_all f2 o1
      · refine u_41 s (i : Int) ?_
        rw [q1]
        exact noU_all f1 (l4U_all hi (by omega) c4)
  · exact none_lead hi c0 (.inr (by omega))
end

theorem u_loop_out (s : List UInt8) (hs : s.length ≤ 9223372036854775807) (i : Nat) (hi : i ≤ s.length ∧ Lib.validD (s.drop i) = true) :
    LoopTo XV8 cU8 (TU8 (SU8 s) s (i : Int)) (.exit 0) (TU8 (SU8 s) s (s.length : Int)) := by
  refine loop_of (fun i : Nat => TU8 (SU8 s) s (i : Int)) (fun i => s.length - i) (fun i => i ≤ s.length ∧ Lib.validD (s.drop i) = true) (by intro e; cases e) (fun i hi => ?_) i hi
  obtain ⟨h1, h2⟩ := hi
  by_cases h : i < s.length
  · rw [valid_next s i h] at h2
    cases hn : nextS s i with
    | none => rw [hn] at h2; cases h2
    | some k =>
      rw [hn] at h2
      have := next_in h hn
      exact .inl ⟨i + k, ⟨this.2, h2⟩, by omega, u_some hs h hn⟩
  · have e : i = s.length := by omega
    subst e
    exact .inr (u_exit s _ (decide_eq_false (by omega)))

theorem u_loop_no (s : List UInt8) (hs : s.length ≤ 9223372036854775807) (i : Nat) (hi : i ≤ s.length ∧ Lib.validD (s.drop i) = false) :
    LoopTo XV8 cU8 (TU8 (SU8 s) s (i : Int)) .ret (RU8 (SU8 s)) := by
  refine loop_of (fun i : Nat => TU8 (SU8 s) s (i : Int)) (fun i => s.length - i) (fun i => i ≤ s.length ∧ Lib.validD (s.drop i) = false) (by intro e; cases e) (fun i hi => ?_) i hi
  obtain ⟨h1, h2⟩ := hi
  by_cases h : i < s.length
  · rw [valid_next s i h] at h2
    cases hn : nextS s i with
    | none => exact .inr (u_no hs h hn)
    | some k =>
      rw [hn] at h2
      have := next_in h hn
      exact .inl ⟨i + k, ⟨this.2, h2⟩, by omega, u_some hs h hn⟩
  · have e : i = s.length := by omega
    subst e
    rw [List.drop_length] at h2
    cases h2

set_option maxRecDepth 100000 in
theorem utf8_pure (s : List UInt8) (hs : s.length ≤ 9223372036854775807) : Pure Tryz.prog J0 118 [.string ⟨⟨s⟩⟩] (.bool (Lib.validD s)) := by
  cases h : Lib.validD s
  · have hL : LoopTo XV8 cU8 (SU8 s) .ret (RU8 (SU8 s)) := loop_into' (u_loop_no s hs 0 ⟨Nat.zero_le _, h⟩) [] (by kernel_rfl) (by kernel_rfl) (by kernel_rfl)
    exact pure_of bKn_ok 10 [told .ret (fun S => RU8 S)] [] (l := [LoopTo XV8 cU8 (SU8 s) .ret (RU8 (SU8 s))]) (by kernel_rfl) ⟨hL, trivial⟩
  · have hL : LoopTo XV8 cU8 (SU8 s) (.exit 0) (TU8 (SU8 s) s (s.length : Int)) := loop_into' (u_loop_out s hs 0 ⟨Nat.zero_le _, h⟩) [] (by kernel_rfl) (by kernel_rfl) (by kernel_rfl)
    exact pure_of bKn_ok 10 [told (.exit 0) (fun S => TU8 S s (s.length : Int))] [] (l := [LoopTo XV8 cU8 (SU8 s) (.exit 0) (TU8 (SU8 s) s (s.length : Int))]) (by kernel_rfl) ⟨hL, trivial⟩

end Go.Proofs.YtaopinmjgjpiiaaGreatDoor
