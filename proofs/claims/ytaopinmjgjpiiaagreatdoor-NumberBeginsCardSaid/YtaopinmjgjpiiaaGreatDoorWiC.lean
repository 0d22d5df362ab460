/-
  wide: differences of words, and how words stand to one another, as contracts.
-/
import Derived.Test.YtaopinmjgjpiiaaGreatDoorWiB
namespace Go.Proofs.YtaopinmjgjpiiaaGreatDoor
open Go Go.RowKit Ev Wd

/-! minus -/

noncomputable def cMin : Code := loopAt Tryz.prog 255 0
def TMin (xs ys L : List Int) (na nb N : Nat) (la c i : Int) : St :=
  ⟨only 40 [(0, slV 11 na), (1, slV 13 nb), (5, slV 15 N), (6, .int .u64 c), (12, slV 11 na), (13, .int .i64 la), (14, .int .i64 i)], [(15, .row u64T 1 (.ints .u64 L) 16), (11, .ints .u64 xs), (13, .ints .u64 ys)], 17, [], [], 0, none, [], 15⟩

section
variable (xs ys L R : List Int) (na nb N : Nat) (la c i : Int)

set_option maxRecDepth 100000 in
theorem min_both (h0 : decide (i < la) = true) (h1 : decide (i < Int.ofNat nb) = true) (h2 : ((Int.ofNat 0 ≤ i ∧ i < Int.ofNat nb) ∧ 0 < ys.length) ∧ i.toNat < ys.length)
    (h3 : ((Int.ofNat 0 ≤ i ∧ i < Int.ofNat na) ∧ 0 < xs.length) ∧ i.toNat < xs.length) (h4 : c.toNat ≤ 1) (h5 : ((Int.ofNat 0 ≤ i ∧ i < Int.ofNat N) ∧ 0 < L.length) ∧ i.toNat < L.length) :
    Step XW0 cMin (TMin xs ys L na nb N la c i) .normal (TMin xs ys (setF L i.toNat (subLo (xs.getD i.toNat 0) (ys.getD i.toNat 0) c)) na nb N la (subHi (xs.getD i.toNat 0) (ys.getD i.toNat 0) c) (IntKind.i64.wrap (i + 1))) :=
  step_of (Base.cx_ok bW0_ok 10).1 progOk.mixed [] 200 [true, true] [] (l := [i.toNat < L.length, (Int.ofNat 0 ≤ i ∧ i < Int.ofNat N) ∧ 0 < L.length, c.toNat ≤ 1, i.toNat < xs.length, (Int.ofNat 0 ≤ i ∧ i < Int.ofNat na) ∧ 0 < xs.length, i.toNat < ys.length,
      (Int.ofNat 0 ≤ i ∧ i < Int.ofNat nb) ∧ 0 < ys.length, decide (i < Int.ofNat nb) = true, decide (i < la) = true]) (by kernel_rfl) ⟨h5.2, h5.1, h4, h3.2, h3.1, h2.2, h2.1, h1, h0, trivial⟩ (by kernel_rfl) (by kernel_rfl)

set_option maxRecDepth 100000 in
theorem min_one (h0 : decide (i < la) = true) (h1 : decide (i < Int.ofNat nb) = false)
    (h3 : ((Int.ofNat 0 ≤ i ∧ i < Int.ofNat na) ∧ 0 < xs.length) ∧ i.toNat < xs.length) (h4 : c.toNat ≤ 1) (h5 : ((Int.ofNat 0 ≤ i ∧ i < Int.ofNat N) ∧ 0 < L.length) ∧ i.toNat < L.length) :
    Step XW0 cMin (TMin xs ys L na nb N la c i) .normal (TMin xs ys (setF L i.toNat (subLo (xs.getD i.toNat 0) 0 c)) na nb N la (subHi (xs.getD i.toNat 0) 0 c) (IntKind.i64.wrap (i + 1))) :=
  step_of (Base.cx_ok bW0_ok 10).1 progOk.mixed [] 200 [true, false] [] (l := [i.toNat < L.length, (Int.ofNat 0 ≤ i ∧ i < Int.ofNat N) ∧ 0 < L.length, c.toNat ≤ 1, i.toNat < xs.length, (Int.ofNat 0 ≤ i ∧ i < Int.ofNat na) ∧ 0 < xs.length,
      decide (i < Int.ofNat nb) = false, decide (i < la) = true]) (by kernel_rfl) ⟨h5.2, h5.1, h4, h3.2, h3.1, h1, h0, trivial⟩ (by kernel_rfl) (by kernel_rfl)

set_option maxRecDepth 100000 in
theorem min_out (h0 : decide (i < la) = false) : Step XW0 cMin (TMin xs ys L na nb N la c i) (.exit 0) (TMin xs ys L na nb N la c i) :=
  step_of (Base.cx_ok bW0_ok 10).1 progOk.mixed [] 200 [false] [] (l := [decide (i < la) = false]) (by kernel_rfl) ⟨h0, trivial⟩ (by kernel_rfl) (by kernel_rfl)

set_option maxRecDepth 100000 in
theorem min_way : semR XW0 [told (.exit 0) (fun _ => TMin xs ys L na nb N la c i)] 200 255 [wS xs, wS ys] [wS R] [] = some [
    LoopTo XW0 cMin (semStart XW0 200 255 [wS xs, wS ys] []) (.exit 0) (TMin xs ys L na nb N la c i),
    (0 : Int) ≤ xs.length ∧ (xs.length : Int) = xs.length ∧ (8 : Int) * xs.length ≤ 281474976710656 ∧ (xs.length : Int) ≤ 9223372036854775807, N = R.length ∧ N ≤ L.length ∧ L.take N = R] := by kernel_rfl

theorem min_into (x : AX) (s' : St) (h : LoopTo XW0 cMin (TMin xs ys (List.replicate xs.length 0) xs.length ys.length xs.length xs.length 0 0) x s') :
    LoopTo XW0 cMin (semStart XW0 200 255 [wS xs, wS ys] []) x s' :=
  loop_into' h [] (by kernel_rfl) (by kernel_rfl) (by kernel_rfl)
end

theorem sub_word {a b c : Nat} (ha : a < W64) (hb : b < W64) (hc : c ≤ 1) : ∃ lo hi : Nat, subLo a b c = lo ∧ subHi a b c = hi ∧ lo < W64 ∧ hi ≤ 1 ∧ lo + b + c = a + W64 * hi := by
  have ha : a < 18446744073709551616 := ha
  have hb : b < 18446744073709551616 := hb
  refine ⟨_, _, rfl, rfl, Nat.mod_lt _ W64_pos, ?_, ?_⟩
  · split <;> omega
  · simp only [Int.toNat_natCast]
    have hW : W64 = 18446744073709551616 := rfl
    rw [hW]
    split
    · rename_i h
      have h : a < b + c := by simpa [Nat.blt_eq] using h
      omega
    · rename_i h
      have h : ¬ a < b + c := fun hlt => by
        have : Nat.blt a (b + c) = true := by simpa [Nat.blt_eq] using hlt
        rw [this] at h
        cases h
      omega

def goodM (n A B : Nat) (p : IPl) : Prop :=
  p.i ≤ n ∧ p.L.length = n ∧ Dg W64 p.L ∧ 0 ≤ p.c ∧ p.c ≤ 1 ∧ (∀ j, p.i ≤ j → p.L.getD j 0 = 0) ∧ val W64 p.L + B % W64 ^ p.i = A % W64 ^ p.i + p.c.toNat * W64 ^ p.i

noncomputable def minN (xs ys : List Int) (p : IPl) : IPl :=
  ⟨p.i + 1, subHi (xs.getD p.i 0) (ys.getD p.i 0) p.c, setF p.L p.i (subLo (xs.getD p.i 0) (ys.getD p.i 0) p.c)⟩

theorem goodM_next {n : Nat} {xs ys : List Int} (hx : Dg W64 xs) (hy : Dg W64 ys) {p : IPl} (h : goodM n (val W64 xs) (val W64 ys) p) (hi : p.i < n) : goodM n (val W64 xs) (val W64 ys) (minN xs ys p) := by
  obtain ⟨h1, h2, h3, h4, h5, h6, h7⟩ := h
  have gx := getD_dig W64_pos hx p.i
  have gy := getD_dig W64_pos hy p.i
  obtain ⟨lo, hi', e1, e2, e3, e4, e5⟩ := sub_word (dig_lt W64_pos (val W64 xs) p.i) (dig_lt W64_pos (val W64 ys) p.i) (show p.c.toNat ≤ 1 by omega)
  have ec : p.c = (p.c.toNat : Int) := by omega
  unfold minN
  rw [setF_eq, gx, gy, ec, e1, e2]
  refine ⟨hi, by simp [h2], h3.set ⟨by omega, by exact_mod_cast e3⟩ _, by simp only; omega, by simp only; omega, fun j hj => ?_, ?_⟩
  · simp only at hj
    rw [getD_set_ne (by omega)]
    exact h6 j (by omega)
  · have hv := val_set (b := W64) (lo : Int) (show p.i < p.L.length by omega)
    rw [h6 p.i (Nat.le_refl _)] at hv
    simp only [Int.toNat_zero, Nat.zero_mul, Nat.add_zero, Int.toNat_natCast] at hv
    simp only [Int.toNat_natCast]
    rw [hv, mod_dig, mod_dig, Nat.pow_succ]
    have q1 : (lo + dig W64 (val W64 ys) p.i + p.c.toNat) * W64 ^ p.i = (dig W64 (val W64 xs) p.i + W64 * hi') * W64 ^ p.i := by rw [e5]
    rw [Nat.add_mul, Nat.add_mul, Nat.add_mul] at q1
    have q2 : hi' * (W64 ^ p.i * W64) = W64 * hi' * W64 ^ p.i := by rw [Nat.mul_comm (W64 ^ p.i), ← Nat.mul_assoc, Nat.mul_comm hi']
    omega

theorem goodM_all {xs ys : List Int} (hx : Dg W64 xs) (hy : Dg W64 ys) (n : Nat) : ∀ k, k ≤ n → goodM n (val W64 xs) (val W64 ys) (itr (minN xs ys) k (zeroI n)) ∧ (itr (minN xs ys) k (zeroI n)).i = k
  | 0, _ => ⟨⟨Nat.zero_le _, by simp [itr, zeroI], Dg.zeros _ W64_pos _, Int.le_refl _, by simp [itr, zeroI], fun j _ => getD_zeros _ _, by simp [itr, zeroI, val_zeros, Nat.mod_one]⟩, rfl⟩
  | k + 1, hk => by
    obtain ⟨h1, h2⟩ := goodM_all hx hy n k (by omega)
    exact ⟨goodM_next hx hy h1 (by omega), by show (itr (minN xs ys) k _).i + 1 = k + 1; rw [h2]⟩

theorem goodM_last {xs ys : List Int} (hx : Dg W64 xs) (hy : Dg W64 ys) {n : Nat} (h1 : xs.length ≤ n) (h2 : ys.length ≤ n) (hle : val W64 ys ≤ val W64 xs) {p : IPl} (h : goodM n (val W64 xs) (val W64 ys) p) (hi : p.i = n) : p.L = dl W64 n (val W64 xs - val W64 ys) := by
  obtain ⟨f1, f2, f3, f4, f5, f6, f7⟩ := h
  rw [hi] at f7
  have l1 := Nat.lt_of_lt_of_le (val_lt W64_pos hx) (Nat.pow_le_pow_right W64_pos h1)
  have l2 := Nat.lt_of_lt_of_le (val_lt W64_pos hy) (Nat.pow_le_pow_right W64_pos h2)
  have l3 := val_lt W64_pos f3
  rw [f2] at l3
  rw [Nat.mod_eq_of_lt l1, Nat.mod_eq_of_lt l2] at f7
  have hc : p.c.toNat = 0 := by
    rcases Nat.lt_or_ge p.c.toNat 1 with h | h
    · omega
    · have : p.c.toNat = 1 := by omega
      rw [this] at f7
      omega
  rw [hc] at f7
  exact dl_eq W64_pos f3 f2 (by omega)

/-- minus: the difference, as many words as the minuend. -/
theorem minus_sem {xs ys : List Int} (hx : Dg W64 xs) (hy : Dg W64 ys) (hle : val W64 ys ≤ val W64 xs) (h1 : xs.length < 1099511627776) (h2 : ys.length ≤ xs.length) :
    Ev.Sem Tryz.prog J0 255 [wS xs, wS ys] [wS (dl W64 xs.length (val W64 xs - val W64 ys))] := by
  obtain ⟨hg, hi⟩ := goodM_all hx hy xs.length xs.length (Nat.le_refl _)
  have hlast := goodM_last hx hy (Nat.le_refl _) h2 hle hg hi
  have hL : LoopTo XW0 cMin (TMin xs ys (List.replicate xs.length 0) xs.length ys.length xs.length xs.length 0 0) (.exit 0)
      (TMin xs ys (itr (minN xs ys) xs.length (zeroI xs.length)).L xs.length ys.length xs.length xs.length (itr (minN xs ys) xs.length (zeroI xs.length)).c xs.length) := by
    refine loop_run (fun k => TMin xs ys (itr (minN xs ys) k (zeroI xs.length)).L xs.length ys.length xs.length xs.length (itr (minN xs ys) k (zeroI xs.length)).c k) xs.length (by intro e; cases e) (fun k hk => ?_)
      (min_out xs ys _ xs.length ys.length xs.length _ _ xs.length (by simp))
    obtain ⟨hg, hi⟩ := goodM_all hx hy xs.length k (by omega)
    simp only [itr]
    generalize itr (minN xs ys) k (zeroI xs.length) = s at *
    obtain ⟨h1', h2', h3, h4, h5, h6, h7⟩ := hg
    have hw := wrap_succ (n := k) (by omega)
    subst hi
    by_cases hlt2 : s.i < ys.length
    · have := min_both xs ys s.L xs.length ys.length xs.length xs.length s.c s.i (by simpa using hk) (by simpa using hlt2) ⟨⟨⟨by simp, by simpa using hlt2⟩, by omega⟩, by simpa using hlt2⟩ ⟨⟨⟨by simp, by simpa using hk⟩, by omega⟩, by simpa using hk⟩ (by omega) ⟨⟨⟨by simp, by simp only [Int.ofNat_eq_natCast]; omega⟩, by omega⟩, by simp only [Int.toNat_natCast]; omega⟩
      rw [hw] at this
      exact this
    · have := min_one xs ys s.L xs.length ys.length xs.length xs.length s.c s.i (by simpa using hk) (by simpa using hlt2) ⟨⟨⟨by simp, by simpa using hk⟩, by omega⟩, by simpa using hk⟩ (by omega) ⟨⟨⟨by simp, by simp only [Int.ofNat_eq_natCast]; omega⟩, by omega⟩, by simp only [Int.toNat_natCast]; omega⟩
      rw [hw] at this
      unfold minN
      rw [getD_beyond (l := ys) (i := s.i) (by omega)]
      exact this
  refine sem_of bW0_ok 10 _ _ (min_way xs ys _ _ _ _ _ _ _ _) ⟨min_into xs ys _ _ hL, ⟨by omega, rfl, by omega, by omega⟩, ⟨?_, ?_, ?_⟩, trivial⟩
  · rw [dl_length]
  · rw [hg.2.1]; exact Nat.le_refl _
  · rw [hlast]
    exact List.take_of_length_le (by rw [dl_length]; exact Nat.le_refl _)

/-! compare -/

noncomputable def cCmp : Code := loopAt Tryz.prog 250 0
def TCmp (xs ys : List Int) (na nb : Nat) (i : Int) : St := ⟨only 43 [(0, slV 11 na), (1, slV 13 nb), (5, .int .i64 i)], [(11, .ints .u64 xs), (13, .ints .u64 ys)], 15, [], [], 0, none, [], 15⟩
def TCmr (xs ys : List Int) (na nb : Nat) (r : Int) : St := ⟨only 43 [(0, slV 11 na), (1, slV 13 nb), (4, .int .i64 r)], [(11, .ints .u64 xs), (13, .ints .u64 ys)], 15, [], [], 0, none, [], 15⟩

section
variable (xs ys : List Int) (na nb : Nat) (i r : Int)

abbrev inB (ys : List Int) (nb : Nat) (i : Int) : Prop := ((Int.ofNat 0 ≤ i ∧ i < Int.ofNat nb) ∧ 0 < ys.length) ∧ i.toNat < ys.length

set_option maxRecDepth 100000 in
theorem cmp_less (h0 : decide (0 ≤ i) = true) (hx : inB xs na i) (hy : inB ys nb i) (h1 : decide (xs.getD i.toNat 0 < ys.getD i.toNat 0) = true) : Step XW0 cCmp (TCmp xs ys na nb i) .ret (TCmr xs ys na nb (-1)) :=
  step_of (Base.cx_ok bW0_ok 10).1 progOk.mixed [] 200 [true, true] [] (l := [decide (xs.getD i.toNat 0 < ys.getD i.toNat 0) = true, i.toNat < ys.length, (Int.ofNat 0 ≤ i ∧ i < Int.ofNat nb) ∧ 0 < ys.length, i.toNat < xs.length, (Int.ofNat 0 ≤ i ∧ i < Int.ofNat na) ∧ 0 < xs.length, decide (0 ≤ i) = true])
    (by kernel_rfl) ⟨h1, hy.2, hy.1, hx.2, hx.1, h0, trivial⟩ (by kernel_rfl) (by kernel_rfl)
set_option maxRecDepth 100000 in
theorem cmp_more (h0 : decide (0 ≤ i) = true) (hx : inB xs na i) (hy : inB ys nb i) (h1 : decide (xs.getD i.toNat 0 < ys.getD i.toNat 0) = false) (h2 : decide (ys.getD i.toNat 0 < xs.getD i.toNat 0) = true) : Step XW0 cCmp (TCmp xs ys na nb i) .ret (TCmr xs ys na nb 1) :=
  step_of (Base.cx_ok bW0_ok 10).1 progOk.mixed [] 200 [true, false, true] [] (l := [decide (ys.getD i.toNat 0 < xs.getD i.toNat 0) = true, i.toNat < ys.length, (Int.ofNat 0 ≤ i ∧ i < Int.ofNat nb) ∧ 0 < ys.length, i.toNat < xs.length, (Int.ofNat 0 ≤ i ∧ i < Int.ofNat na) ∧ 0 < xs.length,
    decide (xs.getD i.toNat 0 < ys.getD i.toNat 0) = false, i.toNat < ys.length, (Int.ofNat 0 ≤ i ∧ i < Int.ofNat nb) ∧ 0 < ys.length, i.toNat < xs.length, (Int.ofNat 0 ≤ i ∧ i < Int.ofNat na) ∧ 0 < xs.length, decide (0 ≤ i) = true])
    (by kernel_rfl) ⟨h2, hy.2, hy.1, hx.2, hx.1, h1, hy.2, hy.1, hx.2, hx.1, h0, trivial⟩ (by kernel_rfl) (by kernel_rfl)
set_option maxRecDepth 100000 in
theorem cmp_same (h0 : decide (0 ≤ i) = true) (hx : inB xs na i) (hy : inB ys nb i) (h1 : decide (xs.getD i.toNat 0 < ys.getD i.toNat 0) = false) (h2 : decide (ys.getD i.toNat 0 < xs.getD i.toNat 0) = false) : Step XW0 cCmp (TCmp xs ys na nb i) .normal (TCmp xs ys na nb (IntKind.i64.wrap (i - 1))) :=
  step_of (Base.cx_ok bW0_ok 10).1 progOk.mixed [] 200 [true, false, false] [] (l := [decide (ys.getD i.toNat 0 < xs.getD i.toNat 0) = false, i.toNat < ys.length, (Int.ofNat 0 ≤ i ∧ i < Int.ofNat nb) ∧ 0 < ys.length, i.toNat < xs.length, (Int.ofNat 0 ≤ i ∧ i < Int.ofNat na) ∧ 0 < xs.length,
    decide (xs.getD i.toNat 0 < ys.getD i.toNat 0) = false, i.toNat < ys.length, (Int.ofNat 0 ≤ i ∧ i < Int.ofNat nb) ∧ 0 < ys.length, i.toNat < xs.length, (Int.ofNat 0 ≤ i ∧ i < Int.ofNat na) ∧ 0 < xs.length, decide (0 ≤ i) = true])
    (by kernel_rfl) ⟨h2, hy.2, hy.1, hx.2, hx.1, h1, hy.2, hy.1, hx.2, hx.1, h0, trivial⟩ (by kernel_rfl) (by kernel_rfl)
set_option maxRecDepth 100000 in
theorem cmp_out (h0 : decide (0 ≤ i) = false) : Step XW0 cCmp (TCmp xs ys na nb i) (.exit 0) (TCmp xs ys na nb i) :=
  step_of (Base.cx_ok bW0_ok 10).1 progOk.mixed [] 200 [false] [] (l := [decide (0 ≤ i) = false]) (by kernel_rfl) ⟨h0, trivial⟩ (by kernel_rfl) (by kernel_rfl)

set_option maxRecDepth 100000 in
theorem cmp_way0 : semR XW0 [] 200 250 [wS xs, wS ys] [.c (.v (.int .i64 r))] [true] = some [((xs.length : Int) != ys.length) = true, Value.int .i64 (IntKind.i64.wrap ((xs.length : Int) - ys.length)) = Value.int .i64 r] := by kernel_rfl
set_option maxRecDepth 100000 in
theorem cmp_way1 : semR XW0 [told (.exit 0) (fun _ => TCmp xs ys na nb i)] 200 250 [wS xs, wS ys] [.c (.v (.int .i64 r))] [false] = some [LoopTo XW0 cCmp (semStart XW0 200 250 [wS xs, wS ys] [false]) (.exit 0) (TCmp xs ys na nb i),
    ((xs.length : Int) != ys.length) = false, Value.int .i64 0 = Value.int .i64 r] := by kernel_rfl
set_option maxRecDepth 100000 in
theorem cmp_way2 (q : Int) : semR XW0 [told .ret (fun _ => TCmr xs ys na nb q)] 200 250 [wS xs, wS ys] [.c (.v (.int .i64 r))] [false] = some [LoopTo XW0 cCmp (semStart XW0 200 250 [wS xs, wS ys] [false]) .ret (TCmr xs ys na nb q),
    ((xs.length : Int) != ys.length) = false, Value.int .i64 q = Value.int .i64 r] := by kernel_rfl
theorem cmp_into (x : AX) (s' : St) (h : LoopTo XW0 cCmp (TCmp xs ys xs.length ys.length (IntKind.i64.wrap ((xs.length : Int) - 1))) x s') : LoopTo XW0 cCmp (semStart XW0 200 250 [wS xs, wS ys] [false]) x s' :=
  loop_into' h [] (by kernel_rfl) (by kernel_rfl) (by kernel_rfl)
end

/-- How words stand to one another. -/
def cmpI (xs ys : List Int) : Int :=
  if xs.length ≠ ys.length then (xs.length : Int) - ys.length else if val W64 xs < val W64 ys then -1 else if val W64 ys < val W64 xs then 1 else 0

theorem drop_getD {l : List Int} {m : Nat} (h : m < l.length) : l.drop m = l.getD m 0 :: l.drop (m + 1) := by
  rw [List.drop_eq_getElem_cons h]
  simp [List.getD, h]

theorem val_top {l l' : List Int} (hl : Dg W64 l) {m : Nat} (h1 : m < l.length) (h2 : m < l'.length) (hd : l.drop (m + 1) = l'.drop (m + 1)) (hlt : l.getD m 0 < l'.getD m 0) : val W64 l < val W64 l' := by
  rw [val_take_drop W64 l m (by omega), val_take_drop W64 l' m (by omega), drop_getD h1, drop_getD h2, hd]
  simp only [val]
  have a1 := val_lt W64_pos (hl.take m)
  rw [List.length_take, Nat.min_eq_left (by omega)] at a1
  have g1 := (hl.get W64_pos m).1
  have : (l.getD m 0).toNat + 1 ≤ (l'.getD m 0).toNat := by omega
  generalize val W64 (l'.drop (m + 1)) = D at *
  have a2 : W64 ^ m * ((l.getD m 0).toNat + 1 + W64 * D) ≤ W64 ^ m * ((l'.getD m 0).toNat + W64 * D) := Nat.mul_le_mul_left _ (by omega)
  have a3 : W64 ^ m * ((l.getD m 0).toNat + 1 + W64 * D) = W64 ^ m * ((l.getD m 0).toNat + W64 * D) + W64 ^ m := by rw [Nat.add_right_comm, Nat.mul_add, Nat.mul_one]
  omega

/-- compare. -/
theorem compare_sem {xs ys : List Int} (hx : Dg W64 xs) (hy : Dg W64 ys) (h1 : xs.length < 1099511627776) (h2 : ys.length < 1099511627776) :
    Ev.Sem Tryz.prog J0 250 [wS xs, wS ys] [.c (.v (.int .i64 (cmpI xs ys)))] := by
  by_cases hn : xs.length = ys.length
  case neg =>
    refine sem_of bW0_ok 10 _ _ (cmp_way0 xs ys _) ⟨by simp; omega, ?_, trivial⟩
    unfold cmpI
    rw [if_pos hn]
    have := IntKind.wrap_i64 ((xs.length : Int) - ys.length)
    congr 1
    omega
  have hw : ∀ m : Nat, m < xs.length → IntKind.i64.wrap (((m + 1 : Nat) : Int) - 1) = (m : Int) := fun m hm => by
    have := wrap_nat (n := m) (by omega)
    rw [← this]
    congr 1
    omega
  have hw1 : IntKind.i64.wrap ((xs.length : Int) - 1) = (xs.length : Int) - 1 := by
    have := IntKind.wrap_i64 ((xs.length : Int) - 1)
    omega
  have hws : ∀ m : Nat, m < xs.length → IntKind.i64.wrap ((m : Int) - 1) = (m : Int) - 1 := fun m hm => by
    have := IntKind.wrap_i64 ((m : Int) - 1)
    omega
  -- equal above, from some place on
  have step : ∀ m, m < xs.length → xs.drop (m + 1) = ys.drop (m + 1) →
      (val W64 xs < val W64 ys ∧ Step XW0 cCmp (TCmp xs ys xs.length ys.length m) .ret (TCmr xs ys xs.length ys.length (-1))) ∨
      (val W64 ys < val W64 xs ∧ Step XW0 cCmp (TCmp xs ys xs.length ys.length m) .ret (TCmr xs ys xs.length ys.length 1)) ∨
      (xs.drop m = ys.drop m ∧ Step XW0 cCmp (TCmp xs ys xs.length ys.length m) .normal (TCmp xs ys xs.length ys.length ((m : Int) - 1))) := by
    intro m hm hd
    have bx : inB xs xs.length (m : Int) := ⟨⟨⟨by simp, by simpa using hm⟩, by omega⟩, by simpa using hm⟩
    have bY : inB ys ys.length (m : Int) := ⟨⟨⟨by simp, by simp only [Int.ofNat_eq_natCast]; omega⟩, by omega⟩, by simp only [Int.toNat_natCast]; omega⟩
    rcases Int.lt_trichotomy (xs.getD m 0) (ys.getD m 0) with h | h | h
    · exact .inl ⟨val_top hx hm (by omega) hd h, cmp_less xs ys _ _ m (by simp) bx bY (by simpa using h)⟩
    · right; right
      refine ⟨by rw [drop_getD (l := xs) (m := m) hm, drop_getD (l := ys) (m := m) (by omega), h, hd], ?_⟩
      have := cmp_same xs ys xs.length ys.length m (by simp) bx bY (by simp only [Int.toNat_natCast, decide_eq_false_iff_not]; omega) (by simp only [Int.toNat_natCast, decide_eq_false_iff_not]; omega)
      rw [hws m hm] at this
      exact this
    · exact .inr (.inl ⟨val_top hy (by omega) hm hd.symm h, cmp_more xs ys _ _ m (by simp) bx bY (by simp only [Int.toNat_natCast, decide_eq_false_iff_not]; omega) (by simpa using h)⟩)
  have good : ∀ m, m ≤ xs.length → xs.drop m = ys.drop m →
      (val W64 xs < val W64 ys ∧ LoopTo XW0 cCmp (TCmp xs ys xs.length ys.length ((m : Int) - 1)) .ret (TCmr xs ys xs.length ys.length (-1))) ∨
      (val W64 ys < val W64 xs ∧ LoopTo XW0 cCmp (TCmp xs ys xs.length ys.length ((m : Int) - 1)) .ret (TCmr xs ys xs.length ys.length 1)) ∨
      (xs = ys ∧ LoopTo XW0 cCmp (TCmp xs ys xs.length ys.length ((m : Int) - 1)) (.exit 0) (TCmp xs ys xs.length ys.length (-1))) := by
    intro m hm hd
    rcases Nat.lt_trichotomy (val W64 xs) (val W64 ys) with h | h | h
    · refine .inl ⟨h, ?_⟩
      refine loop_of (fun m : Nat => TCmp xs ys xs.length ys.length ((m : Int) - 1)) id (fun m => m ≤ xs.length ∧ xs.drop m = ys.drop m) (by intro e; cases e) (fun k hk => ?_) m ⟨hm, hd⟩
      cases k with
      | zero =>
        have : xs = ys := by simpa using hk.2
        rw [this] at h
        omega
      | succ k =>
        have e : (((k + 1 : Nat) : Int) - 1) = (k : Int) := by omega
        simp only [e]
        rcases step k (by omega) hk.2 with ⟨_, s⟩ | ⟨q, _⟩ | ⟨q, s⟩
        · exact .inr s
        · omega
        · exact .inl ⟨k, ⟨by omega, q⟩, Nat.lt_succ_self _, s⟩
    · refine .inr (.inr ?_)
      have he := val_inj W64_pos hx hy hn h
      refine ⟨he, ?_⟩
      refine loop_of (fun m : Nat => TCmp xs ys xs.length ys.length ((m : Int) - 1)) id (fun m => m ≤ xs.length ∧ xs.drop m = ys.drop m) (by intro e; cases e) (fun k hk => ?_) m ⟨hm, hd⟩
      cases k with
      | zero =>
        right
        exact cmp_out xs ys xs.length ys.length (-1) (by decide)
      | succ k =>
        have e : (((k + 1 : Nat) : Int) - 1) = (k : Int) := by omega
        simp only [e]
        rcases step k (by omega) hk.2 with ⟨q, _⟩ | ⟨q, _⟩ | ⟨q, s⟩
        · omega
        · omega
        · exact .inl ⟨k, ⟨by omega, q⟩, Nat.lt_succ_self _, s⟩
    · refine .inr (.inl ⟨h, ?_⟩)
      refine loop_of (fun m : Nat => TCmp xs ys xs.length ys.length ((m : Int) - 1)) id (fun m => m ≤ xs.length ∧ xs.drop m = ys.drop m) (by intro e; cases e) (fun k hk => ?_) m ⟨hm, hd⟩
      cases k with
      | zero =>
        have : xs = ys := by simpa using hk.2
        rw [this] at h
        omega
      | succ k =>
        have e : (((k + 1 : Nat) : Int) - 1) = (k : Int) := by omega
        simp only [e]
        rcases step k (by omega) hk.2 with ⟨q, _⟩ | ⟨_, s⟩ | ⟨q, s⟩
        · omega
        · exact .inr s
        · exact .inl ⟨k, ⟨by omega, q⟩, Nat.lt_succ_self _, s⟩
  have hne : ((xs.length : Int) != ys.length) = false := by simp [hn]
  rcases good xs.length (Nat.le_refl _) (by rw [List.drop_length, hn, List.drop_length]) with ⟨h, s⟩ | ⟨h, s⟩ | ⟨h, s⟩
  · rw [← hw1] at s
    refine sem_of bW0_ok 10 _ _ (cmp_way2 xs ys _ _ _ (-1)) ⟨cmp_into xs ys _ _ s, hne, ?_, trivial⟩
    unfold cmpI
    rw [if_neg (by simp [hn]), if_pos h]
  · rw [← hw1] at s
    refine sem_of bW0_ok 10 _ _ (cmp_way2 xs ys _ _ _ 1) ⟨cmp_into xs ys _ _ s, hne, ?_, trivial⟩
    unfold cmpI
    rw [if_neg (by simp [hn]), if_neg (by omega), if_pos h]
  · rw [← hw1] at s
    refine sem_of bW0_ok 10 _ _ (cmp_way1 xs ys _ _ (-1) _) ⟨cmp_into xs ys _ _ s, hne, ?_, trivial⟩
    unfold cmpI
    rw [if_neg (by simp [hn]), if_neg (by rw [h]; omega), if_neg (by rw [h]; omega)]

end Go.Proofs.YtaopinmjgjpiiaaGreatDoor
