/-
  Layer 14 (values): contracts of the comparisons, in the program and in the reference. (Partly printed by mkcompare.py.)
-/
import Derived.Test.YtdapaocfidjihaaGreatDoorVaF
namespace Go.Proofs.YtdapaocfidjihaaGreatDoor
open Go Go.RowKit Ev VaS

theorem okv_beside {v w : Val} (h : Okv v) : Okv (besideV v w) := by
  unfold besideV
  split
  · exact ⟨Nat.zero_lt_succ _, Nat.zero_le _⟩
  · exact h

theorem not_both {v w : Val} (h : ¬ ((besideV v w).k = 1 ∧ (besideV w v).k = 1)) : (match (besideV v w).k == 1 with | true => (besideV w v).k == 1 | false => false) = false := by
  by_cases c : (besideV v w).k = 1
  · have : ¬ (besideV w v).k = 1 := fun h' => h ⟨c, h'⟩
    rw [show ((besideV v w).k == 1) = true by rw [c]; rfl]
    exact beq_eq_false_iff_ne.2 this
  · rw [show ((besideV v w).k == 1) = false from beq_eq_false_iff_ne.2 c]

def rawN (a b : Nat) : Bool := IntKind.u64.wrap ↑(BitVec.ofInt IntKind.u64.bits (IntKind.u64.wrap ↑(BitVec.ofInt IntKind.u64.bits (Int.ofNat a) ||| BitVec.ofInt IntKind.u64.bits (Int.ofNat b)).toNat) &&& ~~~BitVec.ofInt IntKind.u64.bits 9223372036854775808).toNat == 0

theorem wrapU {n : Nat} (h : inU n) : IntKind.u64.wrap (n : Int) = (n : Int) := by
  simp [IntKind.wrap, IntKind.bits, IntKind.signed]
  omega

theorem rawN_eq {a b : Nat} (ha : inU a) (hb : inU b) : rawN a b = decide (a % p63 = 0 ∧ b % p63 = 0) := by
  unfold rawN
  have h1 : (BitVec.ofInt IntKind.u64.bits (Int.ofNat a) ||| BitVec.ofInt IntKind.u64.bits (Int.ofNat b)).toNat = a ||| b := by
    rw [BitVec.toNat_or, ofInt_nat ha, ofInt_nat hb]
  have h2 : a ||| b < 2 ^ 64 := Nat.or_lt_two_pow ha hb
  rw [h1, wrapU h2]
  have h3 : (BitVec.ofInt IntKind.u64.bits ((a ||| b : Nat) : Int) &&& ~~~BitVec.ofInt IntKind.u64.bits 9223372036854775808).toNat = (a ||| b) % p63 := by
    rw [BitVec.toNat_and, show (BitVec.ofInt IntKind.u64.bits ((a ||| b : Nat) : Int)).toNat = a ||| b from ofInt_nat h2, show (~~~BitVec.ofInt IntKind.u64.bits 9223372036854775808).toNat = 2 ^ 63 - 1 by decide]
    exact Nat.and_two_pow_sub_one_eq_mod _ 63
  rw [h3, wrapU (Nat.lt_trans (mod_lt63 _) (by decide))]
  have h4 : (a ||| b) % p63 = (a % p63) ||| (b % p63) := Nat.or_mod_two_pow (n := 63)
  rw [h4]
  have h5 : (a % p63) ||| (b % p63) = 0 ↔ a % p63 = 0 ∧ b % p63 = 0 := Nat.or_eq_zero_iff
  by_cases c : a % p63 = 0 ∧ b % p63 = 0
  · rw [h5.2 c, decide_eq_true c]; rfl
  · have : (a % p63) ||| (b % p63) ≠ 0 := fun h => c (h5.1 h)
    rw [decide_eq_false c]
    exact beq_eq_false_iff_ne.2 (by omega)

theorem nan_one (x : Nat) : nanB (oneX x) = nanB x := by
  unfold oneX
  cases h : nanB x
  · simpa using h
  · rw [if_pos rfl]; decide

def vStand (p : Bool × Bool) : Value := .tuple ⟨[.bool p.1, .bool p.2]⟩

theorem stand_pure (v w : Val) (hv : Okv v) (hw : Okv w) : Pure Tryz.prog J0 89 [vv v, vv w] (vStand (standB v w)) := by
  have h1 := okv_beside (w := w) hv
  have h2 := okv_beside (w := v) hw
  unfold standB
  by_cases hk : (besideV v w).k ≠ 1 ∨ (besideV w v).k ≠ 1
  · rw [if_pos hk]
    exact pure_of bV3_ok 5 [] [true] (l := [Okv (besideV v w), Okv (besideV w v), (match (besideV v w).k != 1 with | true => true | false => (besideV w v).k != 1) = true]) (by kernel_rfl) ⟨h1, h2, by
      by_cases c : (besideV v w).k = 1
      · have h : (besideV w v).k ≠ 1 := hk.elim (fun h => absurd c h) id
        rw [show ((besideV v w).k != 1) = false by rw [c]; rfl]
        exact bne_iff_ne.2 h
      · rw [show ((besideV v w).k != 1) = true from bne_iff_ne.2 c], trivial⟩
  · rw [if_neg hk]
    have k1 : (besideV v w).k = 1 := Classical.byContradiction fun h => hk (.inl h)
    have k2 : (besideV w v).k = 1 := Classical.byContradiction fun h => hk (.inr h)
    have ek : (match (besideV v w).k != 1 with | true => true | false => (besideV w v).k != 1) = false := by rw [k1, k2]; rfl
    cases hn : (nanB (besideV v w).x || nanB (besideV w v).x)
    · have n1 : nanB (besideV v w).x = false := by simp only [Bool.or_eq_false_iff] at hn; exact hn.1
      have n2 : nanB (besideV w v).x = false := by simp only [Bool.or_eq_false_iff] at hn; exact hn.2
      have o1 : oneX (besideV v w).x = (besideV v w).x := by unfold oneX; rw [n1]; simp
      have o2 : oneX (besideV w v).x = (besideV w v).x := by unfold oneX; rw [n2]; simp
      have := pure_of bV3_ok 5 [] [false, false] (f := 89) (args := [vv v, vv w]) (v := .tuple ⟨[.bool (match !rawN (oneX (besideV v w).x) (oneX (besideV w v).x) with | true => decide (cmpI (keyI (oneX (besideV v w).x)) (keyI (oneX (besideV w v).x)) < 0) | false => false), .bool (match rawN (oneX (besideV v w).x) (oneX (besideV w v).x) with | true => true | false => Int.ofNat (oneX (besideV v w).x) == Int.ofNat (oneX (besideV w v).x))]⟩)
        (l := [condP [(2, !rawN (oneX (besideV v w).x) (oneX (besideV w v).x))] [(2, true)] → inU (oneX (besideV v w).x), condP [(2, !rawN (oneX (besideV v w).x) (oneX (besideV w v).x))] [(2, true)] → inU (oneX (besideV w v).x),
          (match nanB (oneX (besideV v w).x) with | true => true | false => nanB (oneX (besideV w v).x)) = false, inU (oneX (besideV w v).x), inU (oneX (besideV v w).x), inU (besideV w v).x, inU (besideV v w).x, (match (besideV v w).k != 1 with | true => true | false => (besideV w v).k != 1) = false])
        (by kernel_rfl) ⟨fun _ => one_in h1.x, fun _ => one_in h2.x, by rw [nan_one, nan_one, n1, n2], one_in h2.x, one_in h1.x, h2.x, h1.x, ek, trivial⟩
      rw [o1, o2, rawN_eq h1.x h2.x] at this
      simp only [Bool.false_eq_true, if_false]
      by_cases c : (besideV v w).x % p63 = 0 ∧ (besideV w v).x % p63 = 0
      · rw [if_pos c]
        rw [decide_eq_true c] at this
        exact this
      · rw [if_neg c]
        rw [decide_eq_false c] at this
        have e : (Int.ofNat (besideV v w).x == Int.ofNat (besideV w v).x) = decide ((besideV v w).x = (besideV w v).x) := by
          by_cases c2 : (besideV v w).x = (besideV w v).x
          · rw [c2]; simp
          · rw [decide_eq_false c2]
            exact beq_eq_false_iff_ne.2 (fun h => c2 (Int.ofNat.inj h))
        rw [← e]
        exact this
    · rw [if_pos rfl]
      exact pure_of bV3_ok 5 [] [false, true] (l := [(match nanB (oneX (besideV v w).x) with | true => true | false => nanB (oneX (besideV w v).x)) = true, inU (oneX (besideV w v).x), inU (oneX (besideV v w).x), inU (besideV w v).x, inU (besideV v w).x, (match (besideV v w).k != 1 with | true => true | false => (besideV w v).k != 1) = false]) (by kernel_rfl) ⟨by
        rw [nan_one, nan_one]
        cases hq : nanB (besideV v w).x
        · rw [hq, Bool.false_or] at hn; exact hn
        · rfl, one_in h2.x, one_in h1.x, h2.x, h1.x, ek, trivial⟩

noncomputable def tabV4 : Tab := tabAdd 89 (v2 fun v w => (vStand (standB v w), [Okv v, Okv w])) tabV3
theorem tabV4_ok : PcOk Tryz.prog J0 tabV4 := tabAdd_ok (v2_ok fun v w h => stand_pure v w h.1 h.2.1) tabV3_ok
noncomputable def bV4 : Base := ⟨Tryz.prog, J0, false, tabV4, mtab0, 200, xtN0⟩
theorem bV4_ok : BaseOk bV4 := ⟨progOk, tabV4_ok, mtab0_ok _ _, xtN0_ok⟩

theorem compare10_pure (v w : Val) (hv : Okv v) (hw : Okv w) : Pure Tryz.prog J0 28 [vi 10, vv v, vv w] (vv (compareV 10 v w)) := by
  unfold compareV
  rw [if_neg (show ¬ isOp 10 = false by decide)]
  by_cases h1 : faultI v = 0
  · rw [if_neg (fun h => h h1)]
    have e1 : (faultI v != 0) = false := by rw [h1]; rfl
    by_cases h2 : faultI w = 0
    · rw [if_neg (fun h => h h2)]
      have e2 : (faultI w != 0) = false := by rw [h2]; rfl
      by_cases h3 : (besideV v w).k = 1 ∧ (besideV w v).k = 1
      · rw [if_pos h3]
        exact pure_of bV3_ok 5 [] [false, false, false, true] (l := [(match (besideV v w).k == 1 with | true => (besideV w v).k == 1 | false => false) = true, (faultI w != 0) = false, (faultI v != 0) = false, false = false]) (by kernel_rfl) ⟨by rw [h3.1, h3.2]; rfl, e2, e1, rfl, trivial⟩
      · rw [if_neg h3]
        exact pure_of bV3_ok 5 [] [false, false, false, false] (l := [Okv (besideV v w), Okv (besideV w v), (match (besideV v w).k == 1 with | true => (besideV w v).k == 1 | false => false) = false, (faultI w != 0) = false, (faultI v != 0) = false, false = false]) (by kernel_rfl) ⟨okv_beside hv, okv_beside hw, not_both h3, e2, e1, rfl, trivial⟩
    · rw [if_pos h2]
      exact pure_of bV3_ok 5 [] [false, false, true] (l := [(faultI w != 0) = true, (faultI v != 0) = false, false = false]) (by kernel_rfl) ⟨by simp [h2], e1, rfl, trivial⟩
  · rw [if_pos h1]
    exact pure_of bV3_ok 5 [] [false, true] (l := [(faultI v != 0) = true, false = false]) (by kernel_rfl) ⟨by simp [h1], rfl, trivial⟩

theorem compare11_pure (v w : Val) (hv : Okv v) (hw : Okv w) : Pure Tryz.prog J0 28 [vi 11, vv v, vv w] (vv (compareV 11 v w)) := by
  unfold compareV
  rw [if_neg (show ¬ isOp 11 = false by decide)]
  by_cases h1 : faultI v = 0
  · rw [if_neg (fun h => h h1)]
    have e1 : (faultI v != 0) = false := by rw [h1]; rfl
    by_cases h2 : faultI w = 0
    · rw [if_neg (fun h => h h2)]
      have e2 : (faultI w != 0) = false := by rw [h2]; rfl
      by_cases h3 : (besideV v w).k = 1 ∧ (besideV w v).k = 1
      · rw [if_pos h3]
        exact pure_of bV3_ok 5 [] [false, false, false, true] (l := [(match (besideV v w).k == 1 with | true => (besideV w v).k == 1 | false => false) = true, (faultI w != 0) = false, (faultI v != 0) = false, false = false]) (by kernel_rfl) ⟨by rw [h3.1, h3.2]; rfl, e2, e1, rfl, trivial⟩
      · rw [if_neg h3]
        exact pure_of bV3_ok 5 [] [false, false, false, false] (l := [Okv (besideV v w), Okv (besideV w v), (match (besideV v w).k == 1 with | true => (besideV w v).k == 1 | false => false) = false, (faultI w != 0) = false, (faultI v != 0) = false, false = false]) (by kernel_rfl) ⟨okv_beside hv, okv_beside hw, not_both h3, e2, e1, rfl, trivial⟩
    · rw [if_pos h2]
      exact pure_of bV3_ok 5 [] [false, false, true] (l := [(faultI w != 0) = true, (faultI v != 0) = false, false = false]) (by kernel_rfl) ⟨by simp [h2], e1, rfl, trivial⟩
  · rw [if_pos h1]
    exact pure_of bV3_ok 5 [] [false, true] (l := [(faultI v != 0) = true, false = false]) (by kernel_rfl) ⟨by simp [h1], rfl, trivial⟩

theorem compare12_pure (v w : Val) (hv : Okv v) (hw : Okv w) : Pure Tryz.prog J0 28 [vi 12, vv v, vv w] (vv (compareV 12 v w)) := by
  unfold compareV
  rw [if_neg (show ¬ isOp 12 = false by decide)]
  by_cases h1 : faultI v = 0
  · rw [if_neg (fun h => h h1)]
    have e1 : (faultI v != 0) = false := by rw [h1]; rfl
    by_cases h2 : faultI w = 0
    · rw [if_neg (fun h => h h2)]
      have e2 : (faultI w != 0) = false := by rw [h2]; rfl
      by_cases h3 : (besideV v w).k = 1 ∧ (besideV w v).k = 1
      · rw [if_pos h3]
        exact pure_of bV3_ok 5 [] [false, false, false, true] (l := [(match (besideV v w).k == 1 with | true => (besideV w v).k == 1 | false => false) = true, (faultI w != 0) = false, (faultI v != 0) = false, false = false]) (by kernel_rfl) ⟨by rw [h3.1, h3.2]; rfl, e2, e1, rfl, trivial⟩
      · rw [if_neg h3]
        exact pure_of bV3_ok 5 [] [false, false, false, false] (l := [Okv (besideV v w), Okv (besideV w v), (match (besideV v w).k == 1 with | true => (besideV w v).k == 1 | false => false) = false, (faultI w != 0) = false, (faultI v != 0) = false, false = false]) (by kernel_rfl) ⟨okv_beside hv, okv_beside hw, not_both h3, e2, e1, rfl, trivial⟩
    · rw [if_pos h2]
      exact pure_of bV3_ok 5 [] [false, false, true] (l := [(faultI w != 0) = true, (faultI v != 0) = false, false = false]) (by kernel_rfl) ⟨by simp [h2], e1, rfl, trivial⟩
  · rw [if_pos h1]
    exact pure_of bV3_ok 5 [] [false, true] (l := [(faultI v != 0) = true, false = false]) (by kernel_rfl) ⟨by simp [h1], rfl, trivial⟩

theorem compare13_pure (v w : Val) (hv : Okv v) (hw : Okv w) : Pure Tryz.prog J0 28 [vi 13, vv v, vv w] (vv (compareV 13 v w)) := by
  unfold compareV
  rw [if_neg (show ¬ isOp 13 = false by decide)]
  by_cases h1 : faultI v = 0
  · rw [if_neg (fun h => h h1)]
    have e1 : (faultI v != 0) = false := by rw [h1]; rfl
    by_cases h2 : faultI w = 0
    · rw [if_neg (fun h => h h2)]
      have e2 : (faultI w != 0) = false := by rw [h2]; rfl
      by_cases h3 : (besideV v w).k = 1 ∧ (besideV w v).k = 1
      · rw [if_pos h3]
        exact pure_of bV3_ok 5 [] [false, false, false, true] (l := [(match (besideV v w).k == 1 with | true => (besideV w v).k == 1 | false => false) = true, (faultI w != 0) = false, (faultI v != 0) = false, false = false]) (by kernel_rfl) ⟨by rw [h3.1, h3.2]; rfl, e2, e1, rfl, trivial⟩
      · rw [if_neg h3]
        exact pure_of bV3_ok 5 [] [false, false, false, false] (l := [Okv (besideV v w), Okv (besideV w v), (match (besideV v w).k == 1 with | true => (besideV w v).k == 1 | false => false) = false, (faultI w != 0) = false, (faultI v != 0) = false, false = false]) (by kernel_rfl) ⟨okv_beside hv, okv_beside hw, not_both h3, e2, e1, rfl, trivial⟩
    · rw [if_pos h2]
      exact pure_of bV3_ok 5 [] [false, false, true] (l := [(faultI w != 0) = true, (faultI v != 0) = false, false = false]) (by kernel_rfl) ⟨by simp [h2], e1, rfl, trivial⟩
  · rw [if_pos h1]
    exact pure_of bV3_ok 5 [] [false, true] (l := [(faultI v != 0) = true, false = false]) (by kernel_rfl) ⟨by simp [h1], rfl, trivial⟩

theorem compare14_pure (v w : Val) (hv : Okv v) (hw : Okv w) : Pure Tryz.prog J0 28 [vi 14, vv v, vv w] (vv (compareV 14 v w)) := by
  unfold compareV
  rw [if_neg (show ¬ isOp 14 = false by decide)]
  by_cases h1 : faultI v = 0
  · rw [if_neg (fun h => h h1)]
    have e1 : (faultI v != 0) = false := by rw [h1]; rfl
    by_cases h2 : faultI w = 0
    · rw [if_neg (fun h => h h2)]
      have e2 : (faultI w != 0) = false := by rw [h2]; rfl
      by_cases h3 : (besideV v w).k = 1 ∧ (besideV w v).k = 1
      · rw [if_pos h3]
        exact pure_of bV3_ok 5 [] [false, false, false, true] (l := [(match (besideV v w).k == 1 with | true => (besideV w v).k == 1 | false => false) = true, (faultI w != 0) = false, (faultI v != 0) = false, false = false]) (by kernel_rfl) ⟨by rw [h3.1, h3.2]; rfl, e2, e1, rfl, trivial⟩
      · rw [if_neg h3]
        exact pure_of bV3_ok 5 [] [false, false, false, false] (l := [Okv (besideV v w), Okv (besideV w v), (match (besideV v w).k == 1 with | true => (besideV w v).k == 1 | false => false) = false, (faultI w != 0) = false, (faultI v != 0) = false, false = false]) (by kernel_rfl) ⟨okv_beside hv, okv_beside hw, not_both h3, e2, e1, rfl, trivial⟩
    · rw [if_pos h2]
      exact pure_of bV3_ok 5 [] [false, false, true] (l := [(faultI w != 0) = true, (faultI v != 0) = false, false = false]) (by kernel_rfl) ⟨by simp [h2], e1, rfl, trivial⟩
  · rw [if_pos h1]
    exact pure_of bV3_ok 5 [] [false, true] (l := [(faultI v != 0) = true, false = false]) (by kernel_rfl) ⟨by simp [h1], rfl, trivial⟩

theorem compare15_pure (v w : Val) (hv : Okv v) (hw : Okv w) : Pure Tryz.prog J0 28 [vi 15, vv v, vv w] (vv (compareV 15 v w)) := by
  unfold compareV
  rw [if_neg (show ¬ isOp 15 = false by decide)]
  by_cases h1 : faultI v = 0
  · rw [if_neg (fun h => h h1)]
    have e1 : (faultI v != 0) = false := by rw [h1]; rfl
    by_cases h2 : faultI w = 0
    · rw [if_neg (fun h => h h2)]
      have e2 : (faultI w != 0) = false := by rw [h2]; rfl
      by_cases h3 : (besideV v w).k = 1 ∧ (besideV w v).k = 1
      · rw [if_pos h3]
        exact pure_of bV3_ok 5 [] [false, false, false, true] (l := [(match (besideV v w).k == 1 with | true => (besideV w v).k == 1 | false => false) = true, (faultI w != 0) = false, (faultI v != 0) = false, false = false]) (by kernel_rfl) ⟨by rw [h3.1, h3.2]; rfl, e2, e1, rfl, trivial⟩
      · rw [if_neg h3]
        exact pure_of bV3_ok 5 [] [false, false, false, false] (l := [Okv (besideV v w), Okv (besideV w v), (match (besideV v w).k == 1 with | true => (besideV w v).k == 1 | false => false) = false, (faultI w != 0) = false, (faultI v != 0) = false, false = false]) (by kernel_rfl) ⟨okv_beside hv, okv_beside hw, not_both h3, e2, e1, rfl, trivial⟩
    · rw [if_pos h2]
      exact pure_of bV3_ok 5 [] [false, false, true] (l := [(faultI w != 0) = true, (faultI v != 0) = false, false = false]) (by kernel_rfl) ⟨by simp [h2], e1, rfl, trivial⟩
  · rw [if_pos h1]
    exact pure_of bV3_ok 5 [] [false, true] (l := [(faultI v != 0) = true, false = false]) (by kernel_rfl) ⟨by simp [h1], rfl, trivial⟩

theorem ask15 (l e g : Bool) : refAsk 15 l e g = (match g with | true => true | false => e) := by
  cases g <;> rfl

theorem rcompare10_pure (v w : Val) (hv : Okv v) (hw : Okv w) : Pure Tryz.prog J0 33 [vi 10, vv v, vv w] (vv (refCompareV 10 v w)) := by
  unfold refCompareV
  rw [if_neg (show ¬ isOp 10 = false by decide)]
  by_cases h1 : faultI v = 0
  · rw [if_neg (fun h => h h1)]
    have e1 : (faultI v == 0) = true := by rw [h1]; rfl
    by_cases h2 : faultI w = 0
    · rw [if_neg (fun h => h h2)]
      have e2 : (faultI w != 0) = false := by rw [h2]; rfl
      rw [← askB_eq]
      exact pure_of bV4_ok 5 [] [false, true, false] (l := [Okv w, Okv v, Okv v, Okv w, (faultI w != 0) = false, (faultI v == 0) = true, false = false]) (by kernel_rfl) ⟨hw, hv, hv, hw, e2, e1, rfl, trivial⟩
    · rw [if_pos h2]
      exact pure_of bV4_ok 5 [] [false, true, true] (l := [(faultI w != 0) = true, (faultI v == 0) = true, false = false]) (by kernel_rfl) ⟨by simp [h2], e1, rfl, trivial⟩
  · rw [if_pos h1]
    exact pure_of bV4_ok 5 [] [false, false, true] (l := [(faultI v != 0) = true, (faultI v == 0) = false, false = false]) (by kernel_rfl) ⟨by simp [h1], by simp [h1], rfl, trivial⟩

theorem rcompare11_pure (v w : Val) (hv : Okv v) (hw : Okv w) : Pure Tryz.prog J0 33 [vi 11, vv v, vv w] (vv (refCompareV 11 v w)) := by
  unfold refCompareV
  rw [if_neg (show ¬ isOp 11 = false by decide)]
  by_cases h1 : faultI v = 0
  · rw [if_neg (fun h => h h1)]
    have e1 : (faultI v == 0) = true := by rw [h1]; rfl
    by_cases h2 : faultI w = 0
    · rw [if_neg (fun h => h h2)]
      have e2 : (faultI w != 0) = false := by rw [h2]; rfl
      rw [← askB_eq]
      exact pure_of bV4_ok 5 [] [false, true, false] (l := [Okv w, Okv v, Okv v, Okv w, (faultI w != 0) = false, (faultI v == 0) = true, false = false]) (by kernel_rfl) ⟨hw, hv, hv, hw, e2, e1, rfl, trivial⟩
    · rw [if_pos h2]
      exact pure_of bV4_ok 5 [] [false, true, true] (l := [(faultI w != 0) = true, (faultI v == 0) = true, false = false]) (by kernel_rfl) ⟨by simp [h2], e1, rfl, trivial⟩
  · rw [if_pos h1]
    exact pure_of bV4_ok 5 [] [false, false, true] (l := [(faultI v != 0) = true, (faultI v == 0) = false, false = false]) (by kernel_rfl) ⟨by simp [h1], by simp [h1], rfl, trivial⟩

theorem rcompare12_pure (v w : Val) (hv : Okv v) (hw : Okv w) : Pure Tryz.prog J0 33 [vi 12, vv v, vv w] (vv (refCompareV 12 v w)) := by
  unfold refCompareV
  rw [if_neg (show ¬ isOp 12 = false by decide)]
  by_cases h1 : faultI v = 0
  · rw [if_neg (fun h => h h1)]
    have e1 : (faultI v == 0) = true := by rw [h1]; rfl
    by_cases h2 : faultI w = 0
    · rw [if_neg (fun h => h h2)]
      have e2 : (faultI w != 0) = false := by rw [h2]; rfl
      rw [← askB_eq]
      exact pure_of bV4_ok 5 [] [false, true, false] (l := [Okv w, Okv v, Okv v, Okv w, (faultI w != 0) = false, (faultI v == 0) = true, false = false]) (by kernel_rfl) ⟨hw, hv, hv, hw, e2, e1, rfl, trivial⟩
    · rw [if_pos h2]
      exact pure_of bV4_ok 5 [] [false, true, true] (l := [(faultI w != 0) = true, (faultI v == 0) = true, false = false]) (by kernel_rfl) ⟨by simp [h2], e1, rfl, trivial⟩
  · rw [if_pos h1]
    exact pure_of bV4_ok 5 [] [false, false, true] (l := [(faultI v != 0) = true, (faultI v == 0) = false, false = false]) (by kernel_rfl) ⟨by simp [h1], by simp [h1], rfl, trivial⟩

theorem rcompare13_pure (v w : Val) (hv : Okv v) (hw : Okv w) : Pure Tryz.prog J0 33 [vi 13, vv v, vv w] (vv (refCompareV 13 v w)) := by
  unfold refCompareV
  rw [if_neg (show ¬ isOp 13 = false by decide)]
  by_cases h1 : faultI v = 0
  · rw [if_neg (fun h => h h1)]
    have e1 : (faultI v == 0) = true := by rw [h1]; rfl
    by_cases h2 : faultI w = 0
    · rw [if_neg (fun h => h h2)]
      have e2 : (faultI w != 0) = false := by rw [h2]; rfl
      rw [← askB_eq]
      exact pure_of bV4_ok 5 [] [false, true, false] (l := [Okv w, Okv v, Okv v, Okv w, (faultI w != 0) = false, (faultI v == 0) = true, false = false]) (by kernel_rfl) ⟨hw, hv, hv, hw, e2, e1, rfl, trivial⟩
    · rw [if_pos h2]
      exact pure_of bV4_ok 5 [] [false, true, true] (l := [(faultI w != 0) = true, (faultI v == 0) = true, false = false]) (by kernel_rfl) ⟨by simp [h2], e1, rfl, trivial⟩
  · rw [if_pos h1]
    exact pure_of bV4_ok 5 [] [false, false, true] (l := [(faultI v != 0) = true, (faultI v == 0) = false, false = false]) (by kernel_rfl) ⟨by simp [h1], by simp [h1], rfl, trivial⟩

theorem rcompare14_pure (v w : Val) (hv : Okv v) (hw : Okv w) : Pure Tryz.prog J0 33 [vi 14, vv v, vv w] (vv (refCompareV 14 v w)) := by
  unfold refCompareV
  rw [if_neg (show ¬ isOp 14 = false by decide)]
  by_cases h1 : faultI v = 0
  · rw [if_neg (fun h => h h1)]
    have e1 : (faultI v == 0) = true := by rw [h1]; rfl
    by_cases h2 : faultI w = 0
    · rw [if_neg (fun h => h h2)]
      have e2 : (faultI w != 0) = false := by rw [h2]; rfl
      rw [← askB_eq]
      exact pure_of bV4_ok 5 [] [false, true, false] (l := [Okv w, Okv v, Okv v, Okv w, (faultI w != 0) = false, (faultI v == 0) = true, false = false]) (by kernel_rfl) ⟨hw, hv, hv, hw, e2, e1, rfl, trivial⟩
    · rw [if_pos h2]
      exact pure_of bV4_ok 5 [] [false, true, true] (l := [(faultI w != 0) = true, (faultI v == 0) = true, false = false]) (by kernel_rfl) ⟨by simp [h2], e1, rfl, trivial⟩
  · rw [if_pos h1]
    exact pure_of bV4_ok 5 [] [false, false, true] (l := [(faultI v != 0) = true, (faultI v == 0) = false, false = false]) (by kernel_rfl) ⟨by simp [h1], by simp [h1], rfl, trivial⟩

theorem rcompare15_pure (v w : Val) (hv : Okv v) (hw : Okv w) : Pure Tryz.prog J0 33 [vi 15, vv v, vv w] (vv (refCompareV 15 v w)) := by
  unfold refCompareV
  rw [if_neg (show ¬ isOp 15 = false by decide)]
  by_cases h1 : faultI v = 0
  · rw [if_neg (fun h => h h1)]
    have e1 : (faultI v == 0) = true := by rw [h1]; rfl
    by_cases h2 : faultI w = 0
    · rw [if_neg (fun h => h h2)]
      have e2 : (faultI w != 0) = false := by rw [h2]; rfl
      rw [ask15]
      exact pure_of bV4_ok 5 [] [false, true, false] (l := [Okv w, Okv v, Okv v, Okv w, (faultI w != 0) = false, (faultI v == 0) = true, false = false]) (by kernel_rfl) ⟨hw, hv, hv, hw, e2, e1, rfl, trivial⟩
    · rw [if_pos h2]
      exact pure_of bV4_ok 5 [] [false, true, true] (l := [(faultI w != 0) = true, (faultI v == 0) = true, false = false]) (by kernel_rfl) ⟨by simp [h2], e1, rfl, trivial⟩
  · rw [if_pos h1]
    exact pure_of bV4_ok 5 [] [false, false, true] (l := [(faultI v != 0) = true, (faultI v == 0) = false, false = false]) (by kernel_rfl) ⟨by simp [h1], by simp [h1], rfl, trivial⟩

theorem compare_bad (op : Int) (h : isOp op = false) (v w : Val) : Pure Tryz.prog J0 28 [vi op, vv v, vv w] (vv (compareV op v w)) := by
  unfold compareV
  rw [if_pos h]
  cases op with
  | negSucc m => exact pure_of bV3_ok 5 [] [] (l := []) (by kernel_rfl) trivial
  | ofNat n =>
    match n, h with
    | 0, _ => exact pure_of bV3_ok 5 [] [] (l := []) (by kernel_rfl) trivial
    | 1, _ => exact pure_of bV3_ok 5 [] [] (l := []) (by kernel_rfl) trivial
    | 2, _ => exact pure_of bV3_ok 5 [] [] (l := []) (by kernel_rfl) trivial
    | 3, _ => exact pure_of bV3_ok 5 [] [] (l := []) (by kernel_rfl) trivial
    | 4, _ => exact pure_of bV3_ok 5 [] [] (l := []) (by kernel_rfl) trivial
    | 5, _ => exact pure_of bV3_ok 5 [] [] (l := []) (by kernel_rfl) trivial
    | 6, _ => exact pure_of bV3_ok 5 [] [] (l := []) (by kernel_rfl) trivial
    | 7, _ => exact pure_of bV3_ok 5 [] [] (l := []) (by kernel_rfl) trivial
    | 8, _ => exact pure_of bV3_ok 5 [] [] (l := []) (by kernel_rfl) trivial
    | 9, _ => exact pure_of bV3_ok 5 [] [] (l := []) (by kernel_rfl) trivial
    | 10, h => exact absurd h (by decide)
    | 11, h => exact absurd h (by decide)
    | 12, h => exact absurd h (by decide)
    | 13, h => exact absurd h (by decide)
    | 14, h => exact absurd h (by decide)
    | 15, h => exact absurd h (by decide)
    | m + 16, _ => exact pure_of bV3_ok 5 [] [] (l := []) (by kernel_rfl) trivial

theorem compare_pure (op : Int) (v w : Val) (hv : Okv v) (hw : Okv w) : Pure Tryz.prog J0 28 [vi op, vv v, vv w] (vv (compareV op v w)) := by
  cases h : isOp op
  · exact compare_bad op h v w
  · simp only [isOp, Bool.and_eq_true, decide_eq_true_eq] at h
    obtain ⟨h1, h2⟩ := h
    have : op = 10 ∨ op = 11 ∨ op = 12 ∨ op = 13 ∨ op = 14 ∨ op = 15 := by omega
    rcases this with e | e | e | e | e | e <;> subst e
    · exact compare10_pure v w hv hw
    · exact compare11_pure v w hv hw
    · exact compare12_pure v w hv hw
    · exact compare13_pure v w hv hw
    · exact compare14_pure v w hv hw
    · exact compare15_pure v w hv hw

theorem rcompare_bad (op : Int) (h : isOp op = false) (v w : Val) : Pure Tryz.prog J0 33 [vi op, vv v, vv w] (vv (refCompareV op v w)) := by
  unfold refCompareV
  rw [if_pos h]
  refine pure_of bV4_ok 5 [] [true] (l := [(match decide (op < 10) with | true => true | false => decide (op > 15)) = true]) (by kernel_rfl) ⟨?_, trivial⟩
  unfold isOp at h
  by_cases c : op < 10
  · rw [decide_eq_true c]
  · rw [decide_eq_false c]
    rw [decide_eq_true (show 10 ≤ op by omega), Bool.true_and] at h
    have := of_decide_eq_false h
    exact decide_eq_true (by omega)

theorem rcompare_pure (op : Int) (v w : Val) (hv : Okv v) (hw : Okv w) : Pure Tryz.prog J0 33 [vi op, vv v, vv w] (vv (refCompareV op v w)) := by
  cases h : isOp op
  · exact rcompare_bad op h v w
  · simp only [isOp, Bool.and_eq_true, decide_eq_true_eq] at h
    obtain ⟨h1, h2⟩ := h
    have : op = 10 ∨ op = 11 ∨ op = 12 ∨ op = 13 ∨ op = 14 ∨ op = 15 := by omega
    rcases this with e | e | e | e | e | e <;> subst e
    · exact rcompare10_pure v w hv hw
    · exact rcompare11_pure v w hv hw
    · exact rcompare12_pure v w hv hw
    · exact rcompare13_pure v w hv hw
    · exact rcompare14_pure v w hv hw
    · exact rcompare15_pure v w hv hw


end Go.Proofs.YtdapaocfidjihaaGreatDoor
