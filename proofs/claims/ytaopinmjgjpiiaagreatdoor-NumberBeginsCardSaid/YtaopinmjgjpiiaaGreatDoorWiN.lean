/-
  wide: products as a contract.
-/
import Derived.Test.YtaopinmjgjpiiaaGreatDoorWiM
namespace Go.Proofs.YtaopinmjgjpiiaaGreatDoor
open Go Go.RowKit Ev Wd

noncomputable def cMulO : Code := loopAt Tryz.prog 127 0
noncomputable def cMulI : Code := loopAt Tryz.prog 127 1
def hMul (a b : Bool) (xs ys L : List Int) (na nb : Nat) : Heap := [(18, .row u64T 1 (.ints .u64 L) 19), (17, .cells [.bool false, .slice none 0 0] intT), (16, .cells [.bool b, slV 13 nb] intT), (15, .cells [.bool a, slV 11 na] intT), (11, .ints .u64 xs), (13, .ints .u64 ys)]
def TMo (a b : Bool) (xs ys L : List Int) (na nb N : Nat) (la i : Int) : St :=
  ⟨only 89 [(2, .pointer (some ⟨15, 0, none⟩)), (3, .pointer (some ⟨16, 0, none⟩)), (4, .pointer (some ⟨17, 0, none⟩)), (5, slV 18 N), (23, slV 11 na), (24, .int .i64 la), (25, .int .i64 i)], hMul a b xs ys L na nb, 20, [], [], 0, none, [], 15⟩
def TMi (a b : Bool) (xs ys L : List Int) (na nb N : Nat) (la i w c lb j : Int) : St :=
  ⟨only 89 [(2, .pointer (some ⟨15, 0, none⟩)), (3, .pointer (some ⟨16, 0, none⟩)), (4, .pointer (some ⟨17, 0, none⟩)), (5, slV 18 N), (6, .int .i64 i), (7, .int .u64 w), (8, .int .u64 c), (23, slV 11 na), (24, .int .i64 la), (25, .int .i64 i), (31, slV 13 nb), (32, .int .i64 lb), (33, .int .i64 j)],
    hMul a b xs ys L na nb, 20, [], [], 0, none, [], 15⟩
/-- One place of a product: the word that is left, the carry. -/
def mulD (w y p c : Int) : Int := Int.ofNat ((p.toNat + (Int.ofNat (((mulLo w y).toNat + c.toNat + 0) % 18446744073709551616)).toNat + 0) % 18446744073709551616)
def mulC (w y p c : Int) : Int := IntKind.u64.wrap (IntKind.u64.wrap (mulHi w y + Int.ofNat (((mulLo w y).toNat + c.toNat + 0) / 18446744073709551616)) + Int.ofNat ((p.toNat + (Int.ofNat (((mulLo w y).toNat + c.toNat + 0) % 18446744073709551616)).toNat + 0) / 18446744073709551616))
/-- Up to the inner loop. -/
noncomputable def innS (X : Cx) (c : Code) (s : St) (ds : List Bool) : St := match s with
  | ⟨tm, hp, n, _, _, _, rd, mq, b⟩ => match evCode X [fun s => some (.exit 1000000, s)] 200 c ⟨tm, hp, n, ds, [], 0, rd, mq, b⟩ with
    | some (_, s1) => s1.core
    | none => s
abbrev iL' (neg : Bool) (xs : List Int) : Arg := .a [.v (.bool neg), .s u64T .u64 xs]
set_option maxRecDepth 100000 in
theorem mulI_next (a b : Bool) (xs ys L : List Int) (na nb N : Nat) (la i w c lb j : Int) (hl : allP [(IntKind.i64.wrap (i + j)).toNat < L.length, (Int.ofNat 0 ≤ IntKind.i64.wrap (i + j) ∧ IntKind.i64.wrap (i + j) < Int.ofNat N) ∧ 0 < L.length, 0 ≤ 1, (IntKind.i64.wrap (i + j)).toNat < L.length, (Int.ofNat 0 ≤ IntKind.i64.wrap (i + j) ∧ IntKind.i64.wrap (i + j) < Int.ofNat N) ∧ 0 < L.length, 0 ≤ 1, (Int.ofNat 0 ≤ w ∧ w < Int.ofNat 18446744073709551616) ∧ Int.ofNat 0 ≤ ys.getD j.toNat (Int.ofNat 0) ∧ ys.getD j.toNat (Int.ofNat 0) < Int.ofNat 18446744073709551616, j.toNat < ys.length, (Int.ofNat 0 ≤ j ∧ j < Int.ofNat nb) ∧ 0 < ys.length, decide (j < lb) = true]) : Step XW2 cMulI (TMi a b xs ys L na nb N la i w c lb j) .normal (TMi a b xs ys (setF L (IntKind.i64.wrap (i + j)).toNat (mulD w (ys.getD j.toNat 0) (L.getD (IntKind.i64.wrap (i + j)).toNat 0) c)) na nb N la i w (mulC w (ys.getD j.toNat 0) (L.getD (IntKind.i64.wrap (i + j)).toNat 0) c) lb (IntKind.i64.wrap (j + 1))) :=
  step_of (Base.cx_ok bW2_ok 10).1 progOk.mixed [] 200 [true] [] (by kernel_rfl) hl (by kernel_rfl) (by kernel_rfl)
set_option maxRecDepth 100000 in
theorem mulI_out (a b : Bool) (xs ys L : List Int) (na nb N : Nat) (la i w c lb j : Int) (hl : allP [decide (j < lb) = false]) : Step XW2 cMulI (TMi a b xs ys L na nb N la i w c lb j) (.exit 2) (TMi a b xs ys L na nb N la i w c lb j) :=
  step_of (Base.cx_ok bW2_ok 10).1 progOk.mixed [] 200 [false] [] (by kernel_rfl) hl (by kernel_rfl) (by kernel_rfl)
set_option maxRecDepth 100000 in
theorem mulO_next (a b : Bool) (xs ys L M : List Int) (na nb N : Nat) (la i w c lb j : Int) (hl : allP [(IntKind.i64.wrap (i + Int.ofNat nb)).toNat < M.length, (Int.ofNat 0 ≤ IntKind.i64.wrap (i + Int.ofNat nb) ∧ IntKind.i64.wrap (i + Int.ofNat nb) < Int.ofNat N) ∧ 0 < M.length, LoopTo XW2 cMulI (innS XW2 cMulO (TMo a b xs ys L na nb N la i) [true]) (.exit 2) (TMi a b xs ys M na nb N la i w c lb j), i.toNat < xs.length, (Int.ofNat 0 ≤ i ∧ i < Int.ofNat na) ∧ 0 < xs.length, decide (i < la) = true]) : Step XW2 cMulO (TMo a b xs ys L na nb N la i) .normal (TMo a b xs ys (setF M (IntKind.i64.wrap (i + (nb : Int))).toNat c) na nb N la (IntKind.i64.wrap (i + 1))) :=
  step_of (Base.cx_ok bW2_ok 10).1 progOk.mixed [told (.exit 2) (fun _ => TMi a b xs ys M na nb N la i w c lb j)] 200 [true] [] (by kernel_rfl) hl (by kernel_rfl) (by kernel_rfl)
set_option maxRecDepth 100000 in
theorem mulO_out (a b : Bool) (xs ys L : List Int) (na nb N : Nat) (la i : Int) (hl : allP [decide (i < la) = false]) : Step XW2 cMulO (TMo a b xs ys L na nb N la i) (.exit 0) (TMo a b xs ys L na nb N la i) :=
  step_of (Base.cx_ok bW2_ok 10).1 progOk.mixed [] 200 [false] [] (by kernel_rfl) hl (by kernel_rfl) (by kernel_rfl)
set_option maxRecDepth 100000 in
theorem mul_way (a b s : Bool) (xs ys L R : List Int) (na nb N : Nat) (la i : Int) : semR XW2 [told (.exit 0) (fun _ => TMo a b xs ys L na nb N la i)] 200 127 [iL' a xs, iL' b ys] [iL' s R] [] = some [0 = 0 ∧ 0 + N ≤ L.length ∧ L.length < 1099511627776, LoopTo XW2 cMulO (semStart XW2 200 127 [iL' a xs, iL' b ys] []) (.exit 0) (TMo a b xs ys L na nb N la i), Int.ofNat 0 ≤ IntKind.i64.wrap (Int.ofNat (xs.length + ys.length)) ∧ IntKind.i64.wrap (Int.ofNat (xs.length + ys.length)) = IntKind.i64.wrap (Int.ofNat (xs.length + ys.length)) ∧ Int.ofNat 8 * IntKind.i64.wrap (Int.ofNat (xs.length + ys.length)) ≤ Int.ofNat 281474976710656 ∧ IntKind.i64.wrap (Int.ofNat (xs.length + ys.length)) ≤ Int.ofNat 9223372036854775807, Value.bool (!a == b && decide (0 < (trimW (List.take N L)).length)) = Value.bool s, (trimW (List.take N L)).length = R.length ∧ (trimW (List.take N L)).length ≤ L.length ∧ List.take (trimW (List.take N L)).length L = R] := by kernel_rfl

theorem mul_word {w y p c : Nat} (hw : w < W64) (hy : y < W64) (hp : p < W64) (hc : c < W64) : ∃ D C : Nat, mulD w y p c = D ∧ mulC w y p c = C ∧ D < W64 ∧ C < W64 ∧ D + W64 * C = p + w * y + c := by
  have hm : w * y ≤ 18446744073709551615 * 18446744073709551615 := Nat.mul_le_mul (by have : w < 18446744073709551616 := hw; omega) (by have : y < 18446744073709551616 := hy; omega)
  have hp : p < 18446744073709551616 := hp
  have hc : c < 18446744073709551616 := hc
  unfold mulD mulC mulLo mulHi
  simp only [Int.toNat_natCast, Int.ofNat_eq_natCast]
  generalize w * y = m at *
  simp only [IntKind.wrap_u64]
  refine ⟨(p + m + c) % 18446744073709551616, (p + m + c) / 18446744073709551616, ?_, ?_, Nat.mod_lt _ W64_pos, ?_, ?_⟩
  · congr 1
    omega
  · omega
  · show _ < 18446744073709551616
    omega
  · show _ + 18446744073709551616 * _ = _
    omega

structure IMu where
  j : Nat
  c : Int
  L : List Int

noncomputable def mulIn (w : Int) (ys : List Int) (i : Nat) (p : IMu) : IMu :=
  ⟨p.j + 1, mulC w (ys.getD p.j 0) (p.L.getD (i + p.j) 0) p.c, setF p.L (i + p.j) (mulD w (ys.getD p.j 0) (p.L.getD (i + p.j) 0) p.c)⟩
noncomputable def mulRow (w : Int) (ys : List Int) (i : Nat) (L : List Int) (j : Nat) : IMu := itr (mulIn w ys i) j ⟨0, 0, L⟩
noncomputable def mulOut (xs ys : List Int) : Nat → List Int
  | 0 => List.replicate (xs.length + ys.length) 0
  | i + 1 => setF (mulRow (xs.getD i 0) ys i (mulOut xs ys i) ys.length).L (i + ys.length) (mulRow (xs.getD i 0) ys i (mulOut xs ys i) ys.length).c

def goodI (n i ny w B P : Nat) (p : IMu) : Prop :=
  p.j ≤ ny ∧ p.L.length = n ∧ Dg W64 p.L ∧ (0 ≤ p.c ∧ p.c < (W64 : Int)) ∧ (∀ t, i + ny ≤ t → p.L.getD t 0 = 0) ∧ val W64 p.L + p.c.toNat * W64 ^ (i + p.j) = P + w * (B % W64 ^ p.j) * W64 ^ i

theorem goodI_next {n i w P : Nat} {ys : List Int} (hw : w < W64) (hy : Dg W64 ys) (hn : i + ys.length ≤ n) {p : IMu} (h : goodI n i ys.length w (val W64 ys) P p) (hj : p.j < ys.length) : goodI n i ys.length w (val W64 ys) P (mulIn w ys i p) := by
  obtain ⟨h1, h2, h3, h4, h5, h6⟩ := h
  have gy := getD_dig W64_pos hy p.j
  have gp := h3.get W64_pos (i + p.j)
  have ep : p.L.getD (i + p.j) 0 = ((p.L.getD (i + p.j) 0).toNat : Int) := by omega
  have ec : p.c = (p.c.toNat : Int) := by omega
  obtain ⟨D, C, e1, e2, e3, e4, e5⟩ := mul_word hw (dig_lt W64_pos (val W64 ys) p.j) (show (p.L.getD (i + p.j) 0).toNat < W64 by have := gp.2; omega) (show p.c.toNat < W64 by have := h4.2; omega)
  unfold mulIn
  rw [setF_eq, gy, ec, ep, e1, e2]
  refine ⟨hj, by simp [h2], h3.set ⟨by omega, by exact_mod_cast e3⟩ _, ⟨by simp only; omega, by simp only; exact_mod_cast e4⟩, fun t ht => ?_, ?_⟩
  · rw [getD_set_ne (by omega)]
    exact h5 t ht
  · have hv := val_set (b := W64) (D : Int) (show i + p.j < p.L.length by omega)
    simp only [Int.toNat_natCast] at hv
    simp only [Int.toNat_natCast]
    rw [mod_dig, ← Nat.add_assoc, Nat.pow_succ]
    have q : (D + W64 * C) * W64 ^ (i + p.j) = ((p.L.getD (i + p.j) 0).toNat + w * dig W64 (val W64 ys) p.j + p.c.toNat) * W64 ^ (i + p.j) := by rw [e5]
    rw [Nat.add_mul, Nat.add_mul, Nat.add_mul] at q
    have q2 : C * (W64 ^ (i + p.j) * W64) = W64 * C * W64 ^ (i + p.j) := by rw [Nat.mul_comm (W64 ^ (i + p.j)), ← Nat.mul_assoc, Nat.mul_comm C]
    have q3 : w * (val W64 ys % W64 ^ p.j + dig W64 (val W64 ys) p.j * W64 ^ p.j) * W64 ^ i = w * (val W64 ys % W64 ^ p.j) * W64 ^ i + w * dig W64 (val W64 ys) p.j * W64 ^ (i + p.j) := by
      rw [Nat.mul_add, Nat.add_mul, Nat.pow_add]
      congr 1
      rw [← Nat.mul_assoc, Nat.mul_assoc, Nat.mul_comm (W64 ^ p.j)]
    rw [q3, q2]
    omega

theorem goodI_all {n i w P : Nat} {ys L : List Int} (hw : w < W64) (hy : Dg W64 ys) (hn : i + ys.length ≤ n) (hL : L.length = n) (hD : Dg W64 L) (hz : ∀ t, i + ys.length ≤ t → L.getD t 0 = 0) (hP : val W64 L = P) :
    ∀ k, k ≤ ys.length → goodI n i ys.length w (val W64 ys) P (mulRow w ys i L k) ∧ (mulRow w ys i L k).j = k
  | 0, _ => ⟨⟨Nat.zero_le _, hL, hD, ⟨Int.le_refl _, (show (0 : Int) < ((18446744073709551616 : Nat) : Int) by decide)⟩, hz, by simp [mulRow, itr, hP, Nat.mod_one]⟩, rfl⟩
  | k + 1, hk => by
    obtain ⟨h1, h2⟩ := goodI_all hw hy hn hL hD hz hP k (by omega)
    have h3 : (mulRow w ys i L k).j < ys.length := by rw [h2]; omega
    exact ⟨goodI_next hw hy hn h1 h3, by show (mulRow w ys i L k).j + 1 = k + 1; rw [h2]⟩

def goodO (xs ys : List Int) (i : Nat) (L : List Int) : Prop :=
  L.length = xs.length + ys.length ∧ Dg W64 L ∧ (∀ t, i + ys.length ≤ t → L.getD t 0 = 0) ∧ val W64 L = val W64 xs % W64 ^ i * val W64 ys

theorem goodO_all {xs ys : List Int} (hx : Dg W64 xs) (hy : Dg W64 ys) : ∀ i, i ≤ xs.length → goodO xs ys i (mulOut xs ys i)
  | 0, _ => ⟨by simp [mulOut], Dg.zeros _ W64_pos _, fun t _ => getD_zeros _ _, by simp [mulOut, val_zeros, Nat.mod_one]⟩
  | i + 1, hi => by
    obtain ⟨h1, h2, h3, h4⟩ := goodO_all hx hy i (by omega)
    have gx := getD_dig W64_pos hx i
    have := (goodI_all (dig_lt W64_pos (val W64 xs) i) hy (by omega) h1 h2 h3 h4 ys.length (Nat.le_refl _))
    unfold mulOut
    rw [gx, setF_eq]
    generalize mulRow (dig W64 (val W64 xs) i) ys i (mulOut xs ys i) ys.length = p at *
    obtain ⟨⟨q1, q2, q3, q4, q5, q6⟩, q7⟩ := this
    rw [q7] at q6
    refine ⟨by simp [q2], q3.set q4 _, fun t ht => ?_, ?_⟩
    · rw [getD_set_ne (by omega)]
      exact q5 t (by omega)
    · have hv := val_set (b := W64) p.c (show i + ys.length < p.L.length by omega)
      rw [q5 (i + ys.length) (Nat.le_refl _)] at hv
      simp only [Int.toNat_zero, Nat.zero_mul, Nat.add_zero] at hv
      rw [hv, q6, Nat.mod_eq_of_lt (val_lt W64_pos hy), mod_dig, Nat.add_mul]
      congr 1
      rw [Nat.mul_right_comm]

theorem mul_loopI (a b : Bool) {xs ys L : List Int} (N : Nat) (hx : Dg W64 xs) (hy : Dg W64 ys) {i : Nat} (hi : i < xs.length) (hb : xs.length + ys.length < 1099511627776) (hL : L.length = xs.length + ys.length) (hN : N = xs.length + ys.length) (hD : Dg W64 L) (hz : ∀ t, i + ys.length ≤ t → L.getD t 0 = 0) :
    LoopTo XW2 cMulI (TMi a b xs ys L xs.length ys.length N xs.length i (xs.getD i 0) 0 ys.length 0) (.exit 2)
      (TMi a b xs ys (mulRow (xs.getD i 0) ys i L ys.length).L xs.length ys.length N xs.length i (xs.getD i 0) (mulRow (xs.getD i 0) ys i L ys.length).c ys.length ys.length) := by
  subst hN
  refine loop_run (fun k => TMi a b xs ys (mulRow (xs.getD i 0) ys i L k).L xs.length ys.length (xs.length + ys.length) xs.length i (xs.getD i 0) (mulRow (xs.getD i 0) ys i L k).c ys.length k) ys.length (by intro e; cases e) (fun k hk => ?_)
    (mulI_out a b xs ys _ xs.length ys.length (xs.length + ys.length) xs.length i (xs.getD i 0) _ ys.length ys.length ⟨by simp, trivial⟩)
  have gx := getD_dig W64_pos hx i
  have := goodI_all (dig_lt W64_pos (val W64 xs) i) hy (by omega) hL hD hz rfl k (by omega)
  have e : mulRow (xs.getD i 0) ys i L (k + 1) = mulIn (xs.getD i 0) ys i (mulRow (xs.getD i 0) ys i L k) := rfl
  simp only [e]
  rw [← gx] at this
  generalize mulRow (xs.getD i 0) ys i L k = p at *
  obtain ⟨⟨q1, q2, q3, q4, q5, q6⟩, q7⟩ := this
  subst q7
  have hw : IntKind.i64.wrap ((i : Int) + (p.j : Int)) = ((i + p.j : Nat) : Int) := by
    have := wrap_nat (n := i + p.j) (by omega)
    simpa using this
  have hw2 := wrap_succ (n := p.j) (by omega)
  have gw := hx.get W64_pos i
  have gy := hy.get W64_pos p.j
  have hW : ((W64 : Nat) : Int) = 18446744073709551616 := rfl
  rw [hW] at gw gy
  have := mulI_next a b xs ys p.L xs.length ys.length (xs.length + ys.length) xs.length i (xs.getD i 0) p.c ys.length p.j
  rw [hw, hw2] at this
  simp only [Int.toNat_natCast] at this
  have bnd : ((Int.ofNat 0 ≤ ((i + p.j : Nat) : Int) ∧ ((i + p.j : Nat) : Int) < Int.ofNat (xs.length + ys.length)) ∧ 0 < p.L.length) := ⟨⟨by simp only [Int.ofNat_eq_natCast]; omega, by simp only [Int.ofNat_eq_natCast]; omega⟩, by omega⟩
  exact this ⟨by omega, bnd, by omega, by omega, bnd, by omega, ⟨gw, gy⟩, hk, ⟨⟨by simp, by simpa using hk⟩, by omega⟩, by simpa using hk, trivial⟩

theorem mul_into (a b : Bool) (xs ys L : List Int) (na nb N : Nat) (la i : Int) (x : AX) (s' : St) (h : LoopTo XW2 cMulI (TMi a b xs ys L na nb N la i (xs.getD i.toNat 0) 0 nb 0) x s') : LoopTo XW2 cMulI (innS XW2 cMulO (TMo a b xs ys L na nb N la i) [true]) x s' :=
  loop_into' h [] (by kernel_rfl) (by kernel_rfl) (by kernel_rfl)
theorem mul_into0 (a b : Bool) (xs ys : List Int) (x : AX) (s' : St) (h : LoopTo XW2 cMulO (TMo a b xs ys (List.replicate (IntKind.i64.wrap ((xs.length : Int) + ys.length)).toNat 0) xs.length ys.length (IntKind.i64.wrap ((xs.length : Int) + ys.length)).toNat xs.length 0) x s') :
    LoopTo XW2 cMulO (semStart XW2 200 127 [iL' a xs, iL' b ys] []) x s' :=
  loop_into' h [] (by kernel_rfl) (by kernel_rfl) (by kernel_rfl)

/-- The product: its sign, its magnitude. -/
theorem mul_sem (a b : Bool) {A B : Nat} (hA : wl A < 274877906944) (hB : wl B < 274877906944) : Ev.Sem Tryz.prog J0 127 [iN a A, iN b B] [iN ((a != b) && decide (0 < A * B)) (A * B)] := by
  have hA : (ws W64 A).length < 274877906944 := hA
  have hB : (ws W64 B).length < 274877906944 := hB
  have hx := wsDg A
  have hy := wsDg B
  have vA := wsVal A
  have vB := wsVal B
  have hR : trimW (mulOut (ws W64 A) (ws W64 B) (ws W64 A).length) = ws W64 (A * B) ∧ (mulOut (ws W64 A) (ws W64 B) (ws W64 A).length).length = (ws W64 A).length + (ws W64 B).length := by
    obtain ⟨h1, h2, h3, h4⟩ := goodO_all hx hy (ws W64 A).length (Nat.le_refl _)
    refine ⟨?_, h1⟩
    rw [trimW_ws W64_two h2, h4, Nat.mod_eq_of_lt (val_lt W64_pos hx), vA, vB]
  have hL : LoopTo XW2 cMulO (TMo a b (ws W64 A) (ws W64 B) (List.replicate ((ws W64 A).length + (ws W64 B).length) 0) (ws W64 A).length (ws W64 B).length ((ws W64 A).length + (ws W64 B).length) (ws W64 A).length 0) (.exit 0)
      (TMo a b (ws W64 A) (ws W64 B) (mulOut (ws W64 A) (ws W64 B) (ws W64 A).length) (ws W64 A).length (ws W64 B).length ((ws W64 A).length + (ws W64 B).length) (ws W64 A).length (ws W64 A).length) := by
    generalize ws W64 A = xs at *
    generalize ws W64 B = ys at *
    refine loop_run (fun k => TMo a b xs ys (mulOut xs ys k) xs.length ys.length (xs.length + ys.length) xs.length k) xs.length (by intro e; cases e) (fun k hk => ?_) (mulO_out a b xs ys _ xs.length ys.length (xs.length + ys.length) xs.length xs.length ⟨by simp, trivial⟩)
    obtain ⟨h1, h2, h3, h4⟩ := goodO_all hx hy k (by omega)
    have hi := mul_loopI a b (xs.length + ys.length) hx hy hk (by omega) h1 rfl h2 h3
    have hi2 := mul_into a b xs ys (mulOut xs ys k) xs.length ys.length (xs.length + ys.length) xs.length k _ _ (by rw [Int.toNat_natCast]; exact hi)
    have hw : IntKind.i64.wrap ((k : Int) + Int.ofNat ys.length) = ((k + ys.length : Nat) : Int) := by
      have := wrap_nat (n := k + ys.length) (by omega)
      simpa using this
    have hw' : IntKind.i64.wrap ((k : Int) + (ys.length : Int)) = ((k + ys.length : Nat) : Int) := hw
    have hw2 := wrap_succ (n := k) (by omega)
    have hlen : (mulRow (xs.getD k 0) ys k (mulOut xs ys k) ys.length).L.length = xs.length + ys.length := by
      have gx := getD_dig W64_pos hx k
      have := (goodI_all (dig_lt W64_pos (val W64 xs) k) hy (by omega) h1 h2 h3 rfl ys.length (Nat.le_refl _)).1.2.1
      rw [gx]
      exact this
    have := mulO_next a b xs ys (mulOut xs ys k) (mulRow (xs.getD k 0) ys k (mulOut xs ys k) ys.length).L xs.length ys.length (xs.length + ys.length) xs.length k (xs.getD k 0) (mulRow (xs.getD k 0) ys k (mulOut xs ys k) ys.length).c ys.length ys.length
    rw [hw, hw', hw2] at this
    simp only [Int.toNat_natCast] at this
    exact this ⟨by omega, ⟨⟨by simp only [Int.ofNat_eq_natCast]; omega, by simp only [Int.ofNat_eq_natCast]; omega⟩, by omega⟩, hi2, hk, ⟨⟨by simp, by simpa using hk⟩, by omega⟩, by simpa using hk, trivial⟩
  have hw : IntKind.i64.wrap (((ws W64 A).length : Int) + (ws W64 B).length) = (((ws W64 A).length + (ws W64 B).length : Nat) : Int) := by
    have := wrap_nat (n := (ws W64 A).length + (ws W64 B).length) (by omega)
    simpa using this
  have hw' : IntKind.i64.wrap (Int.ofNat ((ws W64 A).length + (ws W64 B).length)) = (((ws W64 A).length + (ws W64 B).length : Nat) : Int) := wrap_nat (by omega)
  have ht : List.take ((ws W64 A).length + (ws W64 B).length) (mulOut (ws W64 A) (ws W64 B) (ws W64 A).length) = mulOut (ws W64 A) (ws W64 B) (ws W64 A).length := List.take_of_length_le (by rw [hR.2]; exact Nat.le_refl _)
  obtain ⟨q1, q2, q3⟩ := trim_obl hR.1
  refine sem_of bW2_ok 10 _ _ (mul_way a b _ (ws W64 A) (ws W64 B) (mulOut (ws W64 A) (ws W64 B) (ws W64 A).length) (ws W64 (A * B)) _ _ ((ws W64 A).length + (ws W64 B).length) _ _) ⟨⟨rfl, by rw [hR.2]; omega, by rw [hR.2]; omega⟩, mul_into0 a b _ _ _ _ (by rw [hw]; exact hL), ⟨by rw [hw']; simp only [Int.ofNat_eq_natCast]; omega, rfl, by rw [hw']; simp only [Int.ofNat_eq_natCast]; omega, by rw [hw']; simp only [Int.ofNat_eq_natCast]; omega⟩, ?_, ?_, trivial⟩
  · rw [ht, hR.1]
    have := wl_pos (m := A * B)
    have e1 : (!a == b) = (a != b) := by cases a <;> cases b <;> rfl
    rw [e1]
    congr 2
    simp only [decide_eq_decide]
    exact this
  · rw [ht]
    exact ⟨q1, q2, q3⟩

end Go.Proofs.YtaopinmjgjpiiaaGreatDoor
