/-
  wide: sums and differences of words as contracts.
-/
import Derived.Test.YtaopinmjgjpiiaaGreatDoorNuA
import Derived.Test.YtaopinmjgjpiiaaGreatDoorEvM
import Derived.Test.YtaopinmjgjpiiaaGreatDoorWdA
namespace Go.Proofs.YtaopinmjgjpiiaaGreatDoor
open Go Go.RowKit Ev Wd

/-! Sums and differences with a carry, of words that are not known. -/

def specAddS : List Value → Option (Value × List Prop)
  | [.int .u64 x, .int .u64 y, .int .u64 c] => some (.tuple ⟨[.int .u64 (Int.ofNat ((x.toNat + y.toNat + c.toNat) % 18446744073709551616)), .int .u64 (Int.ofNat ((x.toNat + y.toNat + c.toNat) / 18446744073709551616))]⟩, [c.toNat ≤ 1])
  | _ => none
theorem specAddS_ok (args : List Value) (v : Value) (l : List Prop) (h : specAddS args = some (v, l)) (hl : allP l) : Pure Tryz.prog J0 195 args v := by
  unfold specAddS at h
  split at h
  case h_2 => cases h
  rename_i x y c
  cases h
  have hc : c.toNat ≤ 1 := hl.1
  refine specAdd64_ok [.int .u64 x, .int .u64 y, .int .u64 c] _ [] ?_ trivial
  simp only [specAdd64, Nat.ble_eq_true_of_le hc]

/-- The difference of two words and a borrow; the borrow. -/
def subLo (x y c : Int) : Int := Int.ofNat ((x.toNat + 18446744073709551616 - y.toNat - c.toNat) % 18446744073709551616)
def subHi (x y c : Int) : Int := Int.ofNat (match Nat.blt x.toNat (y.toNat + c.toNat) with | true => 1 | false => 0)
def specSubS : List Value → Option (Value × List Prop)
  | [.int .u64 x, .int .u64 y, .int .u64 c] => some (.tuple ⟨[.int .u64 (subLo x y c), .int .u64 (subHi x y c)]⟩, [c.toNat ≤ 1])
  | _ => none
theorem specSubS_ok (args : List Value) (v : Value) (l : List Prop) (h : specSubS args = some (v, l)) (hl : allP l) : Pure Tryz.prog J0 282 args v := by
  unfold specSubS at h
  split at h
  case h_2 => cases h
  rename_i x y c
  cases h
  have hc : c.toNat ≤ 1 := hl.1
  refine specSub64_ok [.int .u64 x, .int .u64 y, .int .u64 c] _ [] ?_ trivial
  simp only [specSub64, Nat.ble_eq_true_of_le hc]
  rfl

noncomputable def tabW0 : Tab := tabAdd 195 specAddS (tabAdd 282 specSubS (tabAdd 58 specF64bits (tabAdd 21 specF64from tab0)))
theorem tabW0_ok : PcOk Tryz.prog J0 tabW0 := tabAdd_ok specAddS_ok (tabAdd_ok specSubS_ok (tabAdd_ok specF64bits_ok (tabAdd_ok specF64from_ok (tab0_ok _ _))))
noncomputable def bW0 : Base := ⟨Tryz.prog, J0, false, tabW0, mtab0, 200, xtN0⟩
theorem bW0_ok : BaseOk bW0 := ⟨progOk, tabW0_ok, mtab0_ok _ _, xtN0_ok⟩
noncomputable abbrev XW0 : Cx := bW0.cx 10

/-- The base of words. -/
abbrev W64 : Nat := 18446744073709551616
theorem W64_pos : 0 < W64 := by decide
theorem W64_two : 2 ≤ W64 := by decide

abbrev slV (j n : Nat) : Value := .slice (some ⟨j, 0, some (j + 1)⟩) n 0
abbrev u64T : TypeId := 29

theorem wrap_nat {n : Nat} (h : n < 9223372036854775808) : IntKind.i64.wrap (n : Int) = (n : Int) := by
  have := IntKind.wrap_i64 (n : Int)
  omega

/-! plus -/

noncomputable def cPlus : Code := loopAt Tryz.prog 254 0
/-- Its loop's states: the addends' numbers p and q. -/
def TPlus (p q : Nat) (xs ys L : List Int) (na nb N : Nat) (la c i : Int) : St :=
  ⟨only 53 [(0, slV p na), (1, slV q nb), (5, slV 15 N), (6, .int .u64 c), (20, slV p na), (21, .int .i64 la), (22, .int .i64 i)], [(15, .row u64T 1 (.ints .u64 L) 16), (p, .ints .u64 xs), (q, .ints .u64 ys)], 17, [], [], 0, none, [], 15⟩

section
variable (xs ys L : List Int) (na nb N : Nat) (la c i : Int)

set_option maxRecDepth 100000 in
theorem plus_both (p q : Nat) (hpq : (p = 11 ∧ q = 13) ∨ (p = 13 ∧ q = 11)) (h0 : decide (i < la) = true) (h1 : decide (i < Int.ofNat nb) = true) (h2 : ((Int.ofNat 0 ≤ i ∧ i < Int.ofNat nb) ∧ 0 < ys.length) ∧ i.toNat < ys.length)
    (h3 : ((Int.ofNat 0 ≤ i ∧ i < Int.ofNat na) ∧ 0 < xs.length) ∧ i.toNat < xs.length) (h4 : c.toNat ≤ 1) (h5 : ((Int.ofNat 0 ≤ i ∧ i < Int.ofNat N) ∧ 0 < L.length) ∧ i.toNat < L.length) :
    Step XW0 cPlus (TPlus p q xs ys L na nb N la c i) .normal (TPlus p q xs ys (setF L i.toNat (Int.ofNat (((xs.getD i.toNat 0).toNat + (ys.getD i.toNat 0).toNat + c.toNat) % 18446744073709551616))) na nb N la
      (Int.ofNat (((xs.getD i.toNat 0).toNat + (ys.getD i.toNat 0).toNat + c.toNat) / 18446744073709551616)) (IntKind.i64.wrap (i + 1))) := by
  have hl : allP [i.toNat < L.length, (Int.ofNat 0 ≤ i ∧ i < Int.ofNat N) ∧ 0 < L.length, c.toNat ≤ 1, i.toNat < xs.length, (Int.ofNat 0 ≤ i ∧ i < Int.ofNat na) ∧ 0 < xs.length, i.toNat < ys.length,
      (Int.ofNat 0 ≤ i ∧ i < Int.ofNat nb) ∧ 0 < ys.length, decide (i < Int.ofNat nb) = true, decide (i < la) = true] := ⟨h5.2, h5.1, h4, h3.2, h3.1, h2.2, h2.1, h1, h0, trivial⟩
  rcases hpq with ⟨rfl, rfl⟩ | ⟨rfl, rfl⟩
  · exact step_of (Base.cx_ok bW0_ok 10).1 progOk.mixed [] 200 [true, true] [] (by kernel_rfl) hl (by kernel_rfl) (by kernel_rfl)
  · exact step_of (Base.cx_ok bW0_ok 10).1 progOk.mixed [] 200 [true, true] [] (by kernel_rfl) hl (by kernel_rfl) (by kernel_rfl)

set_option maxRecDepth 100000 in
theorem plus_one (p q : Nat) (hpq : (p = 11 ∧ q = 13) ∨ (p = 13 ∧ q = 11)) (h0 : decide (i < la) = true) (h1 : decide (i < Int.ofNat nb) = false)
    (h3 : ((Int.ofNat 0 ≤ i ∧ i < Int.ofNat na) ∧ 0 < xs.length) ∧ i.toNat < xs.length) (h4 : c.toNat ≤ 1) (h5 : ((Int.ofNat 0 ≤ i ∧ i < Int.ofNat N) ∧ 0 < L.length) ∧ i.toNat < L.length) :
    Step XW0 cPlus (TPlus p q xs ys L na nb N la c i) .normal (TPlus p q xs ys (setF L i.toNat (Int.ofNat (((xs.getD i.toNat 0).toNat + Int.toNat 0 + c.toNat) % 18446744073709551616))) na nb N la
      (Int.ofNat (((xs.getD i.toNat 0).toNat + Int.toNat 0 + c.toNat) / 18446744073709551616)) (IntKind.i64.wrap (i + 1))) := by
  have hl : allP [i.toNat < L.length, (Int.ofNat 0 ≤ i ∧ i < Int.ofNat N) ∧ 0 < L.length, c.toNat ≤ 1, i.toNat < xs.length, (Int.ofNat 0 ≤ i ∧ i < Int.ofNat na) ∧ 0 < xs.length, decide (i < Int.ofNat nb) = false, decide (i < la) = true] := ⟨h5.2, h5.1, h4, h3.2, h3.1, h1, h0, trivial⟩
  rcases hpq with ⟨rfl, rfl⟩ | ⟨rfl, rfl⟩
  · exact step_of (Base.cx_ok bW0_ok 10).1 progOk.mixed [] 200 [true, false] [] (by kernel_rfl) hl (by kernel_rfl) (by kernel_rfl)
  · exact step_of (Base.cx_ok bW0_ok 10).1 progOk.mixed [] 200 [true, false] [] (by kernel_rfl) hl (by kernel_rfl) (by kernel_rfl)

set_option maxRecDepth 100000 in
theorem plus_out (p q : Nat) (hpq : (p = 11 ∧ q = 13) ∨ (p = 13 ∧ q = 11)) (h0 : decide (i < la) = false) : Step XW0 cPlus (TPlus p q xs ys L na nb N la c i) (.exit 0) (TPlus p q xs ys L na nb N la c i) := by
  rcases hpq with ⟨rfl, rfl⟩ | ⟨rfl, rfl⟩
  · exact step_of (Base.cx_ok bW0_ok 10).1 progOk.mixed [] 200 [false] [] (l := [decide (i < la) = false]) (by kernel_rfl) ⟨h0, trivial⟩ (by kernel_rfl) (by kernel_rfl)
  · exact step_of (Base.cx_ok bW0_ok 10).1 progOk.mixed [] 200 [false] [] (l := [decide (i < la) = false]) (by kernel_rfl) ⟨h0, trivial⟩ (by kernel_rfl) (by kernel_rfl)
end

/-- One column of a sum. -/
theorem col_sum {A B V c i a b : Nat} {w : Nat} (h : V + c * w ^ i = A % w ^ i + B % w ^ i) (ha : dig w A i = a) (hb : dig w B i = b) :
    V + (a + b + c) % w * w ^ i + (a + b + c) / w * w ^ (i + 1) = A % w ^ (i + 1) + B % w ^ (i + 1) := by
  rw [mod_dig, mod_dig, ha, hb]
  have e : (a + b + c) % w * w ^ i + (a + b + c) / w * w ^ (i + 1) = (a + b + c) * w ^ i := by
    rw [Nat.pow_succ, ← Nat.mul_assoc, Nat.mul_right_comm, ← Nat.add_mul]
    congr 1
    have := Nat.mod_add_div (a + b + c) w
    rw [Nat.mul_comm] at this
    omega
  have e2 : (a + b + c) * w ^ i = a * w ^ i + b * w ^ i + c * w ^ i := by rw [Nat.add_mul, Nat.add_mul]
  omega

structure IPl where
  i : Nat
  c : Int
  L : List Int

def goodP (n A B : Nat) (p : IPl) : Prop :=
  p.i ≤ n ∧ p.L.length = n + 1 ∧ Dg W64 p.L ∧ 0 ≤ p.c ∧ p.c ≤ 1 ∧ (∀ j, p.i ≤ j → p.L.getD j 0 = 0) ∧ val W64 p.L + p.c.toNat * W64 ^ p.i = A % W64 ^ p.i + B % W64 ^ p.i

noncomputable def plusN (xs ys : List Int) (p : IPl) : IPl :=
  ⟨p.i + 1, Int.ofNat (((xs.getD p.i 0).toNat + (ys.getD p.i 0).toNat + p.c.toNat) / 18446744073709551616), setF p.L p.i (Int.ofNat (((xs.getD p.i 0).toNat + (ys.getD p.i 0).toNat + p.c.toNat) % 18446744073709551616))⟩
def zeroI (n : Nat) : IPl := ⟨0, 0, List.replicate n 0⟩

theorem getD_set_ne {l : List Int} {i j : Nat} (h : i ≠ j) (x : Int) : (l.set i x).getD j 0 = l.getD j 0 := by
  rw [List.getD_eq_getElem?_getD, List.getD_eq_getElem?_getD, List.getElem?_set_ne h]
theorem getD_zeros (n j : Nat) : (List.replicate n (0 : Int)).getD j 0 = 0 := by
  rw [List.getD_eq_getElem?_getD, List.getElem?_replicate]
  split <;> rfl
theorem getD_beyond {l : List Int} {i : Nat} (h : l.length ≤ i) : l.getD i 0 = 0 := by
  rw [List.getD_eq_getElem?_getD, List.getElem?_eq_none h]
  rfl

theorem mod_dgW (n : Nat) : 0 ≤ Int.ofNat (n % 18446744073709551616) ∧ Int.ofNat (n % 18446744073709551616) < ((W64 : Nat) : Int) := by
  have := Nat.mod_lt n W64_pos
  simp only [Int.ofNat_eq_natCast]
  exact ⟨by omega, by exact_mod_cast this⟩

theorem plus_sum_lt {a b c : Nat} (ha : a < W64) (hb : b < W64) (hc : c ≤ 1) : (a + b + c) / 18446744073709551616 ≤ 1 := by
  have : a < 18446744073709551616 := ha
  have : b < 18446744073709551616 := hb
  omega

theorem goodP_next {n : Nat} {xs ys : List Int} (hx : Dg W64 xs) (hy : Dg W64 ys) {p : IPl} (h : goodP n (val W64 xs) (val W64 ys) p) (hi : p.i < n) : goodP n (val W64 xs) (val W64 ys) (plusN xs ys p) := by
  obtain ⟨h1, h2, h3, h4, h5, h6, h7⟩ := h
  have gx := getD_dig W64_pos hx p.i
  have gy := getD_dig W64_pos hy p.i
  have ex : (xs.getD p.i 0).toNat = dig W64 (val W64 xs) p.i := by rw [gx, Int.toNat_natCast]
  have ey : (ys.getD p.i 0).toNat = dig W64 (val W64 ys) p.i := by rw [gy, Int.toNat_natCast]
  have la := dig_lt W64_pos (val W64 xs) p.i
  have lb := dig_lt W64_pos (val W64 ys) p.i
  unfold plusN
  rw [setF_eq, ex, ey]
  have hs := plus_sum_lt la lb (show p.c.toNat ≤ 1 by omega)
  refine ⟨hi, by simp [h2], h3.set (mod_dgW _) _, Int.natCast_nonneg _, ?_, fun j hj => ?_, ?_⟩
  · simp only [Int.ofNat_eq_natCast]
    omega
  · simp only at hj
    rw [getD_set_ne (by omega)]
    exact h6 j (by omega)
  · have hv := val_set (b := W64) (Int.ofNat ((dig W64 (val W64 xs) p.i + dig W64 (val W64 ys) p.i + p.c.toNat) % 18446744073709551616)) (show p.i < p.L.length by omega)
    rw [h6 p.i (Nat.le_refl _)] at hv
    simp only [Int.toNat_zero, Nat.zero_mul, Nat.add_zero, Int.ofNat_eq_natCast, Int.toNat_natCast] at hv
    simp only [Int.ofNat_eq_natCast, Int.toNat_natCast]
    rw [hv]
    exact col_sum h7 rfl rfl

theorem goodP_all {xs ys : List Int} (hx : Dg W64 xs) (hy : Dg W64 ys) (n : Nat) : ∀ k, k ≤ n → goodP n (val W64 xs) (val W64 ys) (itr (plusN xs ys) k (zeroI (n + 1))) ∧ (itr (plusN xs ys) k (zeroI (n + 1))).i = k
  | 0, _ => ⟨⟨Nat.zero_le _, by simp [itr, zeroI], Dg.zeros _ W64_pos _, Int.le_refl _, by simp [itr, zeroI], fun j _ => getD_zeros _ _, by simp [itr, zeroI, val_zeros, Nat.mod_one]⟩, rfl⟩
  | k + 1, hk => by
    obtain ⟨h1, h2⟩ := goodP_all hx hy n k (by omega)
    exact ⟨goodP_next hx hy h1 (by omega), by show (itr (plusN xs ys) k _).i + 1 = k + 1; rw [h2]⟩

/-- The last word. -/
theorem goodP_last {xs ys : List Int} (hx : Dg W64 xs) (hy : Dg W64 ys) {n : Nat} (h1 : xs.length ≤ n) (h2 : ys.length ≤ n) {p : IPl} (h : goodP n (val W64 xs) (val W64 ys) p) (hi : p.i = n) : p.L.set n p.c = dl W64 (n + 1) (val W64 xs + val W64 ys) := by
  obtain ⟨f1, f2, f3, f4, f5, f6, f7⟩ := h
  rw [hi] at f6 f7
  have hv := val_set (b := W64) p.c (show n < p.L.length by omega)
  rw [f6 n (Nat.le_refl _)] at hv
  simp only [Int.toNat_zero, Nat.zero_mul, Nat.add_zero] at hv
  have l1 := Nat.lt_of_lt_of_le (val_lt W64_pos hx) (Nat.pow_le_pow_right W64_pos h1)
  have l2 := Nat.lt_of_lt_of_le (val_lt W64_pos hy) (Nat.pow_le_pow_right W64_pos h2)
  rw [Nat.mod_eq_of_lt l1, Nat.mod_eq_of_lt l2] at f7
  exact dl_eq W64_pos (f3.set ⟨f4, Int.lt_of_le_of_lt f5 (by decide)⟩ _) (by simp [f2]) (by omega)

theorem plus_loop (p q : Nat) (hpq : (p = 11 ∧ q = 13) ∨ (p = 13 ∧ q = 11)) {xs ys : List Int} (hx : Dg W64 xs) (hy : Dg W64 ys) (hb : xs.length < 1099511627776) :
    LoopTo XW0 cPlus (TPlus p q xs ys (List.replicate (xs.length + 1) 0) xs.length ys.length (xs.length + 1) xs.length 0 0) (.exit 0)
      (TPlus p q xs ys (itr (plusN xs ys) xs.length (zeroI (xs.length + 1))).L xs.length ys.length (xs.length + 1) xs.length (itr (plusN xs ys) xs.length (zeroI (xs.length + 1))).c xs.length) := by
  refine loop_run (fun k => TPlus p q xs ys (itr (plusN xs ys) k (zeroI (xs.length + 1))).L xs.length ys.length (xs.length + 1) xs.length (itr (plusN xs ys) k (zeroI (xs.length + 1))).c k) xs.length (by intro e; cases e) (fun k hk => ?_)
    (plus_out xs ys _ xs.length ys.length (xs.length + 1) xs.length _ xs.length p q hpq (by simp))
  obtain ⟨hg, hi⟩ := goodP_all hx hy xs.length k (by omega)
  simp only [itr]
  generalize itr (plusN xs ys) k (zeroI (xs.length + 1)) = s at *
  obtain ⟨h1, h2, h3, h4, h5, h6, h7⟩ := hg
  have hw : IntKind.i64.wrap ((k : Int) + 1) = ((k + 1 : Nat) : Int) := by
    have := wrap_nat (n := k + 1) (by omega)
    simpa using this
  subst hi
  by_cases hlt2 : s.i < ys.length
  · have := plus_both xs ys s.L xs.length ys.length (xs.length + 1) xs.length s.c s.i p q hpq (by simpa using hk) (by simpa using hlt2) ⟨⟨⟨by simp, by simpa using hlt2⟩, by omega⟩, by simpa using hlt2⟩ ⟨⟨⟨by simp, by simpa using hk⟩, by omega⟩, by simpa using hk⟩ (by omega) ⟨⟨⟨by simp, by simp only [Int.ofNat_eq_natCast]; omega⟩, by omega⟩, by simp only [Int.toNat_natCast]; omega⟩
    rw [hw] at this
    exact this
  · have := plus_one xs ys s.L xs.length ys.length (xs.length + 1) xs.length s.c s.i p q hpq (by simpa using hk) (by simpa using hlt2) ⟨⟨⟨by simp, by simpa using hk⟩, by omega⟩, by simpa using hk⟩ (by omega) ⟨⟨⟨by simp, by simp only [Int.ofNat_eq_natCast]; omega⟩, by omega⟩, by simp only [Int.toNat_natCast]; omega⟩
    rw [hw] at this
    unfold plusN
    rw [getD_beyond (l := ys) (i := s.i) (by omega)]
    exact this

abbrev wS (xs : List Int) : Arg := .c (.s u64T .u64 xs)

section
variable (xs ys L R : List Int) (na nb N : Nat) (la c i : Int)

set_option maxRecDepth 100000 in
theorem plus_way1 : semR XW0 [told (.exit 0) (fun _ => TPlus 11 13 xs ys L na nb N la c i)] 200 254 [wS xs, wS ys] [wS R] [false] = some [na < L.length, ((0 : Int) ≤ (na : Int) ∧ (na : Int) < (N : Int)) ∧ 0 < L.length,
    LoopTo XW0 cPlus (semStart XW0 200 254 [wS xs, wS ys] [false]) (.exit 0) (TPlus 11 13 xs ys L na nb N la c i),
    0 ≤ IntKind.i64.wrap ((xs.length : Int) + 1) ∧ IntKind.i64.wrap ((xs.length : Int) + 1) = IntKind.i64.wrap ((xs.length : Int) + 1) ∧ 8 * IntKind.i64.wrap ((xs.length : Int) + 1) ≤ 281474976710656 ∧ IntKind.i64.wrap ((xs.length : Int) + 1) ≤ 9223372036854775807,
    decide ((xs.length : Int) < ys.length) = false, N = R.length ∧ N ≤ (setF L na c).length ∧ (setF L na c).take N = R] := by kernel_rfl
set_option maxRecDepth 100000 in
theorem plus_way2 : semR XW0 [told (.exit 0) (fun _ => TPlus 13 11 ys xs L na nb N la c i)] 200 254 [wS xs, wS ys] [wS R] [true] = some [na < L.length, ((0 : Int) ≤ (na : Int) ∧ (na : Int) < (N : Int)) ∧ 0 < L.length,
    LoopTo XW0 cPlus (semStart XW0 200 254 [wS xs, wS ys] [true]) (.exit 0) (TPlus 13 11 ys xs L na nb N la c i),
    0 ≤ IntKind.i64.wrap ((ys.length : Int) + 1) ∧ IntKind.i64.wrap ((ys.length : Int) + 1) = IntKind.i64.wrap ((ys.length : Int) + 1) ∧ 8 * IntKind.i64.wrap ((ys.length : Int) + 1) ≤ 281474976710656 ∧ IntKind.i64.wrap ((ys.length : Int) + 1) ≤ 9223372036854775807,
    decide ((xs.length : Int) < ys.length) = true, N = R.length ∧ N ≤ (setF L na c).length ∧ (setF L na c).take N = R] := by kernel_rfl

theorem plus_into1 (x : AX) (s' : St) (hw : IntKind.i64.wrap ((xs.length : Int) + 1) = ((xs.length + 1 : Nat) : Int)) (h : LoopTo XW0 cPlus (TPlus 11 13 xs ys (List.replicate (xs.length + 1) 0) xs.length ys.length (xs.length + 1) xs.length 0 0) x s') :
    LoopTo XW0 cPlus (semStart XW0 200 254 [wS xs, wS ys] [false]) x s' := by
  have hw2 : (IntKind.i64.wrap ((xs.length : Int) + 1)).toNat = xs.length + 1 := by rw [hw]; rfl
  rw [← hw2] at h
  exact loop_into' h [] (by kernel_rfl) (by kernel_rfl) (by kernel_rfl)
theorem plus_into2 (x : AX) (s' : St) (hw : IntKind.i64.wrap ((ys.length : Int) + 1) = ((ys.length + 1 : Nat) : Int)) (h : LoopTo XW0 cPlus (TPlus 13 11 ys xs (List.replicate (ys.length + 1) 0) ys.length xs.length (ys.length + 1) ys.length 0 0) x s') :
    LoopTo XW0 cPlus (semStart XW0 200 254 [wS xs, wS ys] [true]) x s' := by
  have hw2 : (IntKind.i64.wrap ((ys.length : Int) + 1)).toNat = ys.length + 1 := by rw [hw]; rfl
  rw [← hw2] at h
  exact loop_into' h [] (by kernel_rfl) (by kernel_rfl) (by kernel_rfl)
end

theorem wrap_succ {n : Nat} (h : n < 1099511627776) : IntKind.i64.wrap ((n : Int) + 1) = ((n + 1 : Nat) : Int) := by
  have := wrap_nat (n := n + 1) (by omega)
  simpa using this

/-- plus: the sum, one word longer than the longer addend. -/
theorem plus_sem {xs ys : List Int} (hx : Dg W64 xs) (hy : Dg W64 ys) (h1 : xs.length < 1099511627776) (h2 : ys.length < 1099511627776) :
    Ev.Sem Tryz.prog J0 254 [wS xs, wS ys] [wS (dl W64 (max xs.length ys.length + 1) (val W64 xs + val W64 ys))] := by
  by_cases hlt : xs.length < ys.length
  · have hL := plus_loop 13 11 (.inr ⟨rfl, rfl⟩) hy hx h2
    have hw := wrap_succ h2
    obtain ⟨hg, hi⟩ := goodP_all hy hx ys.length ys.length (Nat.le_refl _)
    have hlast := goodP_last hy hx (Nat.le_refl _) (by omega) hg hi
    rw [Nat.max_eq_right (by omega), Nat.add_comm (val W64 xs)]
    refine sem_of bW0_ok 10 _ _ (plus_way2 xs ys _ _ ys.length xs.length (ys.length + 1) ys.length _ ys.length) ⟨?_, ⟨⟨by omega, by omega⟩, ?_⟩, plus_into2 xs ys _ _ hw hL, ⟨?_, rfl, ?_, ?_⟩, by simpa using hlt, ⟨?_, ?_, ?_⟩, trivial⟩
    · have := hg.2.1; omega
    · have := hg.2.1; omega
    · rw [hw]; omega
    · rw [hw]; omega
    · rw [hw]; omega
    · rw [dl_length]
    · rw [setF_eq, hlast, dl_length]; exact Nat.le_refl _
    · rw [setF_eq, hlast]; exact List.take_of_length_le (by rw [dl_length]; exact Nat.le_refl _)
  · have hL := plus_loop 11 13 (.inl ⟨rfl, rfl⟩) hx hy h1
    have hw := wrap_succ h1
    obtain ⟨hg, hi⟩ := goodP_all hx hy xs.length xs.length (Nat.le_refl _)
    have hlast := goodP_last hx hy (Nat.le_refl _) (by omega) hg hi
    rw [Nat.max_eq_left (by omega)]
    refine sem_of bW0_ok 10 _ _ (plus_way1 xs ys _ _ xs.length ys.length (xs.length + 1) xs.length _ xs.length) ⟨?_, ⟨⟨by omega, by omega⟩, ?_⟩, plus_into1 xs ys _ _ hw hL, ⟨?_, rfl, ?_, ?_⟩, by simp; omega, ⟨?_, ?_, ?_⟩, trivial⟩
    · have := hg.2.1; omega
    · have := hg.2.1; omega
    · rw [hw]; omega
    · rw [hw]; omega
    · rw [hw]; omega
    · rw [dl_length]
    · rw [setF_eq, hlast, dl_length]; exact Nat.le_refl _
    · rw [setF_eq, hlast]; exact List.take_of_length_le (by rw [dl_length]; exact Nat.le_refl _)

end Go.Proofs.YtaopinmjgjpiiaaGreatDoor
