/-
  wide: numbers with signs: made of a word, turned round, added, held against one another.
-/
import Derived.Test.YtaopinmjgjpiiaaGreatDoorWiD
namespace Go.Proofs.YtaopinmjgjpiiaaGreatDoor
open Go Go.RowKit Ev Wd

abbrev iL (neg : Bool) (xs : List Int) : Arg := .a [.v (.bool neg), .s u64T .u64 xs]
abbrev iR (r : Int) : Arg := .c (.v (.int .i64 r))
abbrev uR (r : Int) : Arg := .c (.v (.int .u64 r))
set_option maxRecDepth 100000 in
theorem word_way (n : Int) (s : Bool) (R : List Int) : semR XW1 [] 200 124 [uR n] [iL s R] [] = some [1 ≤ 1 ∧ 1 ≤ 1 ∧ 1 < 1099511627776, Value.bool false = Value.bool s, (trimW [n]).length = R.length ∧ (trimW [n]).length ≤ 1 ∧ List.take (trimW [n]).length [n] = R ∧ 1 = 1 ∧ 1 ≤ 9223372036854775807] := by kernel_rfl
set_option maxRecDepth 100000 in
theorem add_way1 (a b s : Bool) (xs ys R : List Int) : semR XW1 [] 200 200 [iL a xs, iL b ys] [iL s R] [true] = some [0 = 0 ∧ 0 + (sumW xs ys).length ≤ (sumW xs ys).length ∧ (sumW xs ys).length < 1099511627776, xs.length = xs.length, ys.length = ys.length, Dg 18446744073709551616 xs, Dg 18446744073709551616 ys, xs.length < 1099511627776, ys.length < 1099511627776, (a == b) = true, Value.bool (a && decide (0 < (trimW (List.take (sumW xs ys).length (List.drop 0 (sumW xs ys)))).length)) = Value.bool s, (trimW (List.take (sumW xs ys).length (List.drop 0 (sumW xs ys)))).length = R.length ∧ (trimW (List.take (sumW xs ys).length (List.drop 0 (sumW xs ys)))).length ≤ (sumW xs ys).length ∧ List.take (trimW (List.take (sumW xs ys).length (List.drop 0 (sumW xs ys)))).length (sumW xs ys) = R] := by kernel_rfl
set_option maxRecDepth 100000 in
theorem add_way2 (a b s : Bool) (xs ys R : List Int) : semR XW1 [] 200 200 [iL a xs, iL b ys] [iL s R] [false, true] = some [0 = 0 ∧ 0 + (difW xs ys).length ≤ (difW xs ys).length ∧ (difW xs ys).length < 1099511627776, xs.length = xs.length, ys.length = ys.length, Dg 18446744073709551616 xs, Dg 18446744073709551616 ys, val 18446744073709551616 ys ≤ val 18446744073709551616 xs, xs.length < 1099511627776, ys.length ≤ xs.length, decide (Int.ofNat 0 ≤ cmpI xs ys) = true, xs.length = xs.length, ys.length = ys.length, Dg 18446744073709551616 xs, Dg 18446744073709551616 ys, xs.length < 1099511627776, ys.length < 1099511627776, (a == b) = false, Value.bool (a && decide (0 < (trimW (List.take (difW xs ys).length (List.drop 0 (difW xs ys)))).length)) = Value.bool s, (trimW (List.take (difW xs ys).length (List.drop 0 (difW xs ys)))).length = R.length ∧ (trimW (List.take (difW xs ys).length (List.drop 0 (difW xs ys)))).length ≤ (difW xs ys).length ∧ List.take (trimW (List.take (difW xs ys).length (List.drop 0 (difW xs ys)))).length (difW xs ys) = R] := by kernel_rfl
set_option maxRecDepth 100000 in
theorem add_way3 (a b s : Bool) (xs ys R : List Int) : semR XW1 [] 200 200 [iL a xs, iL b ys] [iL s R] [false, false] = some [0 = 0 ∧ 0 + (difW ys xs).length ≤ (difW ys xs).length ∧ (difW ys xs).length < 1099511627776, ys.length = ys.length, xs.length = xs.length, Dg 18446744073709551616 ys, Dg 18446744073709551616 xs, val 18446744073709551616 xs ≤ val 18446744073709551616 ys, ys.length < 1099511627776, xs.length ≤ ys.length, decide (Int.ofNat 0 ≤ cmpI xs ys) = false, xs.length = xs.length, ys.length = ys.length, Dg 18446744073709551616 xs, Dg 18446744073709551616 ys, xs.length < 1099511627776, ys.length < 1099511627776, (a == b) = false, Value.bool (b && decide (0 < (trimW (List.take (difW ys xs).length (List.drop 0 (difW ys xs)))).length)) = Value.bool s, (trimW (List.take (difW ys xs).length (List.drop 0 (difW ys xs)))).length = R.length ∧ (trimW (List.take (difW ys xs).length (List.drop 0 (difW ys xs)))).length ≤ (difW ys xs).length ∧ List.take (trimW (List.take (difW ys xs).length (List.drop 0 (difW ys xs)))).length (difW ys xs) = R] := by kernel_rfl
set_option maxRecDepth 100000 in
theorem sign_way1 (a : Bool) (xs : List Int) (r : Int) : semR XW1 [] 200 217 [iL a xs] [iR r] [true] = some [(Int.ofNat xs.length == Int.ofNat 0) = true, Value.int IntKind.i64 (Int.ofNat 0) = Value.int IntKind.i64 r] := by kernel_rfl
set_option maxRecDepth 100000 in
theorem sign_way2 (a : Bool) (xs : List Int) (r : Int) : semR XW1 [] 200 217 [iL a xs] [iR r] [false, true] = some [a = true, (Int.ofNat xs.length == Int.ofNat 0) = false, Value.int IntKind.i64 (Int.negSucc 0) = Value.int IntKind.i64 r] := by kernel_rfl
set_option maxRecDepth 100000 in
theorem sign_way3 (a : Bool) (xs : List Int) (r : Int) : semR XW1 [] 200 217 [iL a xs] [iR r] [false, false] = some [a = false, (Int.ofNat xs.length == Int.ofNat 0) = false, Value.int IntKind.i64 (Int.ofNat 1) = Value.int IntKind.i64 r] := by kernel_rfl
set_option maxRecDepth 100000 in
theorem low_way1 (a : Bool) (xs : List Int) (r : Int) : semR XW1 [] 200 166 [iL a xs] [uR r] [true] = some [(Int.ofNat xs.length == Int.ofNat 0) = true, Value.int IntKind.u64 (Int.ofNat 0) = Value.int IntKind.u64 r] := by kernel_rfl
set_option maxRecDepth 100000 in
theorem low_way2 (a : Bool) (xs : List Int) (r : Int) : semR XW1 [] 200 166 [iL a xs] [uR r] [false] = some [0 < xs.length, (Int.ofNat 0 ≤ Int.ofNat 0 ∧ Int.ofNat 0 < Int.ofNat xs.length) ∧ 0 < xs.length, (Int.ofNat xs.length == Int.ofNat 0) = false, Value.int IntKind.u64 (xs.getD 0 (Int.ofNat 0)) = Value.int IntKind.u64 r] := by kernel_rfl

/-! Plain facts on words. -/

abbrev wl (m : Nat) : Nat := (ws W64 m).length
theorem wsDg (m : Nat) : Dg W64 (ws W64 m) := ws_dg W64_two m
theorem wsVal (m : Nat) : val W64 (ws W64 m) = m := ws_val W64_two m
theorem trim_ws (m : Nat) : trimW (ws W64 m) = ws W64 m := by rw [trimW_ws W64_two (wsDg m), wsVal]
theorem trim_dl {n m : Nat} (h : m < W64 ^ n) : trimW (dl W64 n m) = ws W64 m := by rw [trimW_ws W64_two (dl_dg W64_pos n m), dl_val, Nat.mod_eq_of_lt h]
theorem wl_le {m n : Nat} : wl m ≤ n ↔ m < W64 ^ n := ws_length_le W64_two m n
theorem wl_pos {m : Nat} : 0 < wl m ↔ 0 < m := by
  have := ws_nil W64_two (m := m)
  show 0 < (ws W64 m).length ↔ 0 < m
  omega
theorem wl_mono {a b : Nat} (h : a ≤ b) : wl a ≤ wl b := wl_le.2 (Nat.lt_of_le_of_lt h (wl_le.1 (Nat.le_refl _)))
theorem pow_mono {m n : Nat} (h : m ≤ n) : W64 ^ m ≤ W64 ^ n := Nat.pow_le_pow_right W64_pos h
theorem wl_lt (m : Nat) : m < W64 ^ wl m := wl_le.1 (Nat.le_refl _)
theorem wl_add (a b : Nat) : wl (a + b) ≤ max (wl a) (wl b) + 1 := by
  rw [wl_le, Nat.pow_succ]
  have h1 := Nat.lt_of_lt_of_le (wl_lt a) (pow_mono (Nat.le_max_left (wl a) (wl b)))
  have h2 := Nat.lt_of_lt_of_le (wl_lt b) (pow_mono (Nat.le_max_right (wl a) (wl b)))
  generalize W64 ^ max (wl a) (wl b) = p at *
  show a + b < p * 18446744073709551616
  omega
theorem sum_lt (a b : Nat) : a + b < W64 ^ (1 + max (wl a) (wl b)) := by
  have := wl_add a b
  rw [Nat.add_comm (max (wl a) (wl b))] at this
  exact wl_le.1 this
theorem wl_mul (a b : Nat) : wl (a * b) ≤ wl a + wl b := by
  rw [wl_le, Nat.pow_add]
  exact Nat.mul_lt_mul'' (wl_lt a) (wl_lt b)

theorem trim_sum (a b : Nat) : trimW (sumW (ws W64 a) (ws W64 b)) = ws W64 (a + b) := by
  unfold sumW
  rw [wsVal, wsVal]
  exact trim_dl (sum_lt a b)
theorem trim_dif (a b : Nat) : trimW (difW (ws W64 a) (ws W64 b)) = ws W64 (a - b) := by
  unfold difW
  rw [wsVal, wsVal]
  exact trim_dl (Nat.lt_of_le_of_lt (Nat.sub_le a b) (wl_lt a))
theorem sumW_len (a b : Nat) : (sumW (ws W64 a) (ws W64 b)).length = 1 + max (wl a) (wl b) := by unfold sumW; rw [dl_length]
theorem difW_len (a b : Nat) : (difW (ws W64 a) (ws W64 b)).length = wl a := by unfold difW; rw [dl_length]

theorem len_lt {a b : Nat} (h : wl a < wl b) : a < b := by
  rcases Nat.lt_or_ge a b with h' | h'
  · exact h'
  · have := wl_mono h'
    omega

theorem cmpI_pos (a b : Nat) : 0 ≤ cmpI (ws W64 a) (ws W64 b) ↔ b ≤ a := by
  unfold cmpI
  rw [wsVal, wsVal]
  split
  · rename_i h
    constructor
    · intro h2
      have : wl b < wl a := by show (ws W64 b).length < (ws W64 a).length; omega
      have := len_lt this
      omega
    · intro h2
      have : wl b ≤ wl a := wl_mono h2
      have : (ws W64 b).length ≤ (ws W64 a).length := this
      omega
  · split
    · constructor <;> intro h <;> omega
    · split <;> constructor <;> intro h <;> omega

/-- How a number stands to another one. -/
theorem cmpI_neg (a b : Nat) : cmpI (ws W64 a) (ws W64 b) < 0 ↔ a < b := by
  have := cmpI_pos a b
  omega

/-- The obligations of a row that is trimmed. -/
theorem trim_obl {l : List Int} {m : Nat} (h : trimW l = ws W64 m) : (trimW l).length = (ws W64 m).length ∧ (trimW l).length ≤ l.length ∧ l.take (trimW l).length = ws W64 m := by
  refine ⟨by rw [h], trimW_length_le l, ?_⟩
  have key : ∀ (l : List Int), l.take (trimW l).length = trimW l := by
    intro l
    induction hn : l.length generalizing l with
    | zero => have := List.eq_nil_of_length_eq_zero hn; subst this; rfl
    | succ n ih =>
      have hne : l ≠ [] := by intro e; subst e; cases hn
      obtain ⟨m, x, rfl⟩ : ∃ m x, l = m ++ [x] := ⟨l.dropLast, l.getLast hne, (List.dropLast_concat_getLast hne).symm⟩
      rw [trimW_snoc]
      split
      · rw [List.take_append_of_le_length (trimW_length_le m)]
        exact ih m (by simp at hn; omega)
      · exact List.take_length
  rw [key, h]

/-! Numbers with signs. -/

theorem word_sem (n : Nat) (hn : n < W64) : Ev.Sem Tryz.prog J0 124 [uR n] [iN false n] := by
  have ht : trimW [(n : Int)] = ws W64 n := by
    have hd : Dg W64 [(n : Int)] := Dg.cons ⟨by omega, by exact_mod_cast hn⟩ (Dg.nil _)
    rw [trimW_ws W64_two hd]
    simp [val]
  refine sem_of bW1_ok 10 _ _ (word_way n false (ws W64 n)) ⟨⟨by omega, by omega, by omega⟩, rfl, ⟨by rw [ht], ?_, ?_, rfl, by omega⟩, trivial⟩
  · have := trimW_length_le [(n : Int)]
    simpa using this
  · rw [ht]
    by_cases h0 : n = 0
    · subst h0; rfl
    · rw [ws_pos W64_two (by omega), Nat.mod_eq_of_lt hn, Nat.div_eq_of_lt hn, ws_zero]
      rfl

def addM (a b : Bool) (A B : Nat) : Nat := if a = b then A + B else if B ≤ A then A - B else B - A
def addS (a b : Bool) (A B : Nat) : Bool := if a = b then a && decide (0 < A + B) else if B ≤ A then a && decide (0 < A - B) else b && decide (0 < B - A)

theorem drop0 (l : List Int) : List.take l.length (List.drop 0 l) = l := by simp

theorem add_sem (a b : Bool) {A B : Nat} (hA : wl A < 549755813888) (hB : wl B < 549755813888) : Ev.Sem Tryz.prog J0 200 [iN a A, iN b B] [iN (addS a b A B) (addM a b A B)] := by
  have hA : (ws W64 A).length < 549755813888 := hA
  have hB : (ws W64 B).length < 549755813888 := hB
  by_cases hab : a = b
  · have e1 : addM a b A B = A + B := if_pos hab
    have e2 : addS a b A B = (a && decide (0 < A + B)) := if_pos hab
    rw [e1, e2]
    obtain ⟨q1, q2, q3⟩ := trim_obl (trim_sum A B)
    have hlen := sumW_len A B
    refine sem_of bW1_ok 10 _ _ (add_way1 a b _ (ws W64 A) (ws W64 B) (ws W64 (A + B))) ⟨⟨rfl, by omega, by rw [hlen]; omega⟩, rfl, rfl, wsDg A, wsDg B, by omega, by omega, by simpa using hab, ?_, ?_, trivial⟩
    · rw [drop0, trim_sum]
      have := wl_pos (m := A + B)
      congr 2
      simp only [decide_eq_decide]
      exact this
    · rw [drop0]
      exact ⟨q1, q2, q3⟩
  · by_cases hle : B ≤ A
    · have e1 : addM a b A B = A - B := by unfold addM; rw [if_neg hab, if_pos hle]
      have e2 : addS a b A B = (a && decide (0 < A - B)) := by unfold addS; rw [if_neg hab, if_pos hle]
      rw [e1, e2]
      obtain ⟨q1, q2, q3⟩ := trim_obl (trim_dif A B)
      have hlen := difW_len A B
      have hl : (ws W64 B).length ≤ (ws W64 A).length := wl_mono hle
      refine sem_of bW1_ok 10 _ _ (add_way2 a b _ (ws W64 A) (ws W64 B) (ws W64 (A - B))) ⟨⟨rfl, by omega, by rw [hlen]; omega⟩, rfl, rfl, wsDg A, wsDg B, by rw [wsVal, wsVal]; exact hle, by omega, hl, ?_, rfl, rfl, wsDg A, wsDg B, by omega, by omega, by simpa using hab, ?_, ?_, trivial⟩
      · simpa using (cmpI_pos A B).2 hle
      · rw [drop0, trim_dif]
        have := wl_pos (m := A - B)
        congr 2
        simp only [decide_eq_decide]
        exact this
      · rw [drop0]
        exact ⟨q1, q2, q3⟩
    · have e1 : addM a b A B = B - A := by unfold addM; rw [if_neg hab, if_neg hle]
      have e2 : addS a b A B = (b && decide (0 < B - A)) := by unfold addS; rw [if_neg hab, if_neg hle]
      rw [e1, e2]
      obtain ⟨q1, q2, q3⟩ := trim_obl (trim_dif B A)
      have hlen := difW_len B A
      have hl : (ws W64 A).length ≤ (ws W64 B).length := wl_mono (by omega)
      refine sem_of bW1_ok 10 _ _ (add_way3 a b _ (ws W64 A) (ws W64 B) (ws W64 (B - A))) ⟨⟨rfl, by omega, by rw [hlen]; omega⟩, rfl, rfl, wsDg B, wsDg A, by rw [wsVal, wsVal]; omega, by omega, hl, ?_, rfl, rfl, wsDg A, wsDg B, by omega, by omega, by simpa using hab, ?_, ?_, trivial⟩
      · have := cmpI_pos A B
        simp only [decide_eq_false_iff_not]
        exact fun h => hle (this.1 h)
      · rw [drop0, trim_dif]
        have := wl_pos (m := B - A)
        congr 2
        simp only [decide_eq_decide]
        exact this
      · rw [drop0]
        exact ⟨q1, q2, q3⟩

def signI (a : Bool) (A : Nat) : Int := if A = 0 then 0 else if a then -1 else 1
theorem sign_sem (a : Bool) (A : Nat) : Ev.Sem Tryz.prog J0 217 [iN a A] [iR (signI a A)] := by
  have h0 := ws_nil W64_two (m := A)
  unfold signI
  by_cases hA : A = 0
  · rw [if_pos hA]
    exact sem_of bW1_ok 10 _ _ (sign_way1 a (ws W64 A) 0) ⟨by have := h0.2 hA; simp [this], rfl, trivial⟩
  · have hne : (Int.ofNat (ws W64 A).length == Int.ofNat 0) = false := by
      have : (ws W64 A).length ≠ 0 := fun e => hA (h0.1 e)
      simpa using this
    rw [if_neg hA]
    cases a
    · exact sem_of bW1_ok 10 _ _ (sign_way3 false (ws W64 A) 1) ⟨rfl, hne, rfl, trivial⟩
    · exact sem_of bW1_ok 10 _ _ (sign_way2 true (ws W64 A) (-1)) ⟨rfl, hne, rfl, trivial⟩

theorem low_sem (a : Bool) (A : Nat) : Ev.Sem Tryz.prog J0 166 [iN a A] [uR ((A % W64 : Nat) : Int)] := by
  have h0 := ws_nil W64_two (m := A)
  by_cases hA : A = 0
  · refine sem_of bW1_ok 10 _ _ (low_way1 a (ws W64 A) _) ⟨by have := h0.2 hA; simp [this], ?_, trivial⟩
    rw [hA]
    rfl
  · have hp : 0 < (ws W64 A).length := by omega
    refine sem_of bW1_ok 10 _ _ (low_way2 a (ws W64 A) _) ⟨hp, ⟨⟨by simp, by simpa using hp⟩, hp⟩, by have : (ws W64 A).length ≠ 0 := (by omega); simpa using this, ?_, trivial⟩
    have := ws_getD W64_two A 0
    have e : (ws W64 A).getD 0 (Int.ofNat 0) = (ws W64 A).getD 0 0 := rfl
    rw [e, this]
    simp [dig]

end Go.Proofs.YtaopinmjgjpiiaaGreatDoor
