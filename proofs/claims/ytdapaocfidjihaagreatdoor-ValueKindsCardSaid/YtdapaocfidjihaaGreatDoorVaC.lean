/-
  Layer 14 (values): contracts of the order of numbers.
-/
import Derived.Test.YtdapaocfidjihaaGreatDoorVaB
namespace Go.Proofs.YtdapaocfidjihaaGreatDoor
open Go Go.RowKit Ev VaS

def rawM (x : Nat) : Int := Int.ofNat (Nat.bitwise and (BitVec.ofInt IntKind.u64.bits (Int.ofNat x)).toNat (~~~BitVec.ofInt IntKind.u64.bits 9223372036854775808).toNat % 18446744073709551616)
def rawS (x : Nat) : Int := Int.ofNat (Nat.bitwise and (BitVec.ofInt IntKind.u64.bits (Int.ofNat x)).toNat (BitVec.ofInt IntKind.u64.bits 9223372036854775808).toNat % 18446744073709551616)

theorem ofInt_nat {x : Nat} (hx : x < 18446744073709551616) : (BitVec.ofInt IntKind.u64.bits (Int.ofNat x)).toNat = x := by
  show (BitVec.ofInt 64 (x : Int)).toNat = x
  rw [BitVec.ofInt_natCast, BitVec.toNat_ofNat]
  exact Nat.mod_eq_of_lt hx

theorem rawM_eq {x : Nat} (hx : x < 18446744073709551616) : rawM x = ((x % p63 : Nat) : Int) := by
  unfold rawM
  rw [ofInt_nat hx, show (~~~BitVec.ofInt IntKind.u64.bits 9223372036854775808).toNat = 2 ^ 63 - 1 by decide]
  have e : Nat.bitwise and x (2 ^ 63 - 1) = x % 2 ^ 63 := Nat.and_two_pow_sub_one_eq_mod x 63
  rw [e]
  have h : x % 2 ^ 63 < 18446744073709551616 := Nat.lt_trans (Nat.mod_lt _ (by decide)) (by decide)
  rw [Nat.mod_eq_of_lt h]
  rfl

theorem rawS_eq {x : Nat} (hx : x < 18446744073709551616) : rawS x = if p63 ≤ x then 9223372036854775808 else 0 := by
  unfold rawS
  rw [ofInt_nat hx, show (BitVec.ofInt IntKind.u64.bits 9223372036854775808).toNat = 2 ^ 63 by decide]
  have e : Nat.bitwise and x (2 ^ 63) = x &&& 2 ^ 63 := rfl
  have hb : x.testBit 63 = decide (p63 ≤ x) := by
    rw [Nat.testBit_eq_decide_div_mod_eq, decide_eq_decide]
    unfold p63
    omega
  have e2 : x &&& 2 ^ 63 = if p63 ≤ x then 2 ^ 63 else 0 := by
    refine Nat.eq_of_testBit_eq fun j => ?_
    rw [Nat.testBit_and, Nat.testBit_two_pow]
    by_cases hj : 63 = j
    · subst hj
      rw [hb]
      by_cases h : p63 ≤ x
      · rw [if_pos h, Nat.testBit_two_pow]; simp [h]
      · rw [if_neg h]; simp [h]
    · by_cases h : p63 ≤ x
      · rw [if_pos h, Nat.testBit_two_pow]; simp [hj]
      · rw [if_neg h]; simp [hj]
  rw [e, e2]
  split <;> rfl

theorem wrap_id {n : Int} (h1 : -9223372036854775808 ≤ n) (h2 : n ≤ 9223372036854775807) : IntKind.i64.wrap n = n := by
  simp [IntKind.wrap, IntKind.bits, IntKind.signed]
  omega

theorem mod_lt63 (x : Nat) : x % p63 < 9223372036854775808 := Nat.mod_lt _ (by decide)

theorem ref01nan_pure (x : Nat) (hx : x < 18446744073709551616) : Pure Tryz.prog J0 31 [.int .u64 (Int.ofNat x)] (.bool (nanB x)) := by
  have := pure_of bV0_ok 3 [] [] (f := 31) (args := [.int .u64 (Int.ofNat x)]) (v := .bool (decide ((9218868437227405312 : Int) < rawM x))) (l := []) (by kernel_rfl) trivial
  rw [rawM_eq hx] at this
  have e : decide ((9218868437227405312 : Int) < ((x % p63 : Nat) : Int)) = nanB x := by
    unfold nanB
    rw [decide_eq_decide]
    omega
  rw [e] at this
  exact this

theorem nan_raw {x : Nat} (hx : x < 18446744073709551616) (b : Bool) : (decide ((9218868437227405312 : Int) < rawM x) = b) ↔ nanB x = b := by
  rw [rawM_eq hx]
  unfold nanB
  rw [show decide ((9218868437227405312 : Int) < ((x % p63 : Nat) : Int)) = decide (9218868437227405312 < x % p63) from decide_eq_decide.2 (by omega)]

theorem sign_raw {x : Nat} (hx : x < 18446744073709551616) (b : Bool) : ((rawS x != 0) = b) ↔ decide (p63 ≤ x) = b := by
  rw [rawS_eq hx]
  by_cases h : p63 ≤ x
  · rw [if_pos h, decide_eq_true h]; rfl
  · rw [if_neg h, decide_eq_false h]; rfl

theorem key_pure (x : Nat) (hx : x < 18446744073709551616) : Pure Tryz.prog J0 138 [.int .u64 (Int.ofNat x)] (vi (keyI x)) := by
  have hm := mod_lt63 x
  unfold keyI
  cases hn : nanB x
  · by_cases hs : p63 ≤ x
    · have := pure_of bV0_ok 5 [] [false, true] (f := 138) (args := [.int .u64 (Int.ofNat x)]) (v := vi (IntKind.i64.wrap (IntKind.i64.wrap (0 - IntKind.i64.wrap (rawM x)) - 1))) (l := [(rawS x != 0) = true, decide ((9218868437227405312 : Int) < rawM x) = false]) (by kernel_rfl) ⟨(sign_raw hx _).2 (decide_eq_true hs), (nan_raw hx _).2 hn, trivial⟩
      rw [rawM_eq hx, wrap_id (n := ((x % p63 : Nat) : Int)) (by omega) (by omega), wrap_id (n := 0 - ((x % p63 : Nat) : Int)) (by omega) (by omega), wrap_id (by omega) (by omega)] at this
      simp only [Bool.false_eq_true, if_false, if_pos hs]
      rw [show -((x % p63 : Nat) : Int) - 1 = 0 - ((x % p63 : Nat) : Int) - 1 by omega]
      exact this
    · have := pure_of bV0_ok 5 [] [false, false] (f := 138) (args := [.int .u64 (Int.ofNat x)]) (v := vi (IntKind.i64.wrap (rawM x))) (l := [(rawS x != 0) = false, decide ((9218868437227405312 : Int) < rawM x) = false]) (by kernel_rfl) ⟨(sign_raw hx _).2 (decide_eq_false hs), (nan_raw hx _).2 hn, trivial⟩
      rw [rawM_eq hx, wrap_id (by omega) (by omega)] at this
      simp only [Bool.false_eq_true, if_false, if_neg hs]
      exact this
  · exact pure_of bV0_ok 5 [] [true] (l := [decide ((9218868437227405312 : Int) < rawM x) = true]) (by kernel_rfl) ⟨(nan_raw hx _).2 hn, trivial⟩

theorem ref01one_pure (x : Nat) (hx : x < 18446744073709551616) : Pure Tryz.prog J0 134 [.int .u64 (Int.ofNat x)] (.int .u64 (Int.ofNat (oneX x))) := by
  unfold oneX
  cases hn : nanB x
  · exact pure_of bV0_ok 5 [] [false] (l := [decide ((9218868437227405312 : Int) < rawM x) = false]) (by kernel_rfl) ⟨(nan_raw hx _).2 hn, trivial⟩
  · exact pure_of bV0_ok 5 [] [true] (l := [decide ((9218868437227405312 : Int) < rawM x) = true]) (by kernel_rfl) ⟨(nan_raw hx _).2 hn, trivial⟩

theorem order_self {x : Nat} (hx : x < 18446744073709551616) (b : Bool) : ((Ieee.double.order x x != some .eq) = b) ↔ nanB x = b := by
  rw [order_eq hx hx]
  unfold ordF
  rw [Bool.or_self]
  have cmp_def : ∀ a b : Int, compare a b = if a < b then Ordering.lt else if a = b then .eq else .gt := fun _ _ => rfl
  cases nanB x
  · simp [cmp_def]
  · rw [if_pos rfl]
    cases b <;> decide

theorem place_pure (x : Nat) (hx : x < 18446744073709551616) : Pure Tryz.prog J0 136 [.float .f64 x] (vi (keyI x)) := by
  have hm := mod_lt63 x
  have hsg : decide (IntKind.i64.wrap (Int.ofNat x) < 0) = decide (p63 ≤ x) := by
    rw [decide_eq_decide]
    unfold p63
    simp [IntKind.wrap, IntKind.bits, IntKind.signed]
    omega
  have ht : ∀ y : Int, 0 ≤ y → Int.ofNat y.toNat = y := fun y hy => Int.toNat_of_nonneg hy
  have hr : rawM x = ((x % p63 : Nat) : Int) := rawM_eq hx
  unfold keyI
  cases hn : nanB x
  · by_cases hs : p63 ≤ x
    · have := pure_of bV0_ok 6 [] [false, true] (f := 136) (args := [.float .f64 x]) (v := vi (IntKind.i64.wrap (IntKind.i64.wrap (0 - IntKind.i64.wrap (Int.ofNat (rawM x).toNat)) - 1))) (l := [decide (IntKind.i64.wrap (Int.ofNat x) < 0) = true, (Ieee.double.order x x != some .eq) = false]) (by kernel_rfl) ⟨by rw [hsg]; exact decide_eq_true hs, (order_self hx _).2 hn, trivial⟩
      rw [ht _ (by rw [hr]; omega), hr, wrap_id (n := ((x % p63 : Nat) : Int)) (by omega) (by omega), wrap_id (n := 0 - ((x % p63 : Nat) : Int)) (by omega) (by omega), wrap_id (by omega) (by omega)] at this
      simp only [Bool.false_eq_true, if_false, if_pos hs]
      rw [show -((x % p63 : Nat) : Int) - 1 = 0 - ((x % p63 : Nat) : Int) - 1 by omega]
      exact this
    · have := pure_of bV0_ok 6 [] [false, false] (f := 136) (args := [.float .f64 x]) (v := vi (IntKind.i64.wrap (Int.ofNat (rawM x).toNat))) (l := [decide (IntKind.i64.wrap (Int.ofNat x) < 0) = false, (Ieee.double.order x x != some .eq) = false]) (by kernel_rfl) ⟨by rw [hsg]; exact decide_eq_false hs, (order_self hx _).2 hn, trivial⟩
      rw [ht _ (by rw [hr]; omega), hr, wrap_id (by omega) (by omega)] at this
      simp only [Bool.false_eq_true, if_false, if_neg hs]
      exact this
  · exact pure_of bV0_ok 6 [] [true] (l := [(Ieee.double.order x x != some .eq) = true]) (by kernel_rfl) ⟨(order_self hx _).2 hn, trivial⟩

end Go.Proofs.YtdapaocfidjihaaGreatDoor
