/-
  How many bits a number has. Plain laws.
-/
import Init
namespace Go.Proofs.YtaopinmjgjpiiaaGreatDoor.Wd

def bl (n : Nat) : Nat := match n with
  | 0 => 0
  | n + 1 => (n + 1).log2 + 1

theorem bl_le {n k : Nat} : bl n ≤ k ↔ n < 2 ^ k := by
  cases n with
  | zero => simp [bl, Nat.two_pow_pos]
  | succ n =>
    have := Nat.log2_lt (n := n + 1) (k := k) (by omega)
    simp only [bl]
    omega
theorem lt_bl (n : Nat) : n < 2 ^ bl n := bl_le.1 (Nat.le_refl _)
theorem bl_ge {n k : Nat} : k < bl n ↔ 2 ^ k ≤ n := by
  have := bl_le (n := n) (k := k)
  omega
theorem bl_zero : bl 0 = 0 := rfl
theorem bl_pos {n : Nat} : 0 < bl n ↔ 0 < n := by
  rw [bl_ge]
  simp
  omega
theorem bl_top {n : Nat} (h : 0 < n) : 2 ^ (bl n - 1) ≤ n := bl_ge.1 (by have := bl_pos.2 h; omega)
theorem bl_eq {n m : Nat} (h : ∀ k, bl n ≤ k ↔ bl m ≤ k) : bl n = bl m := Nat.le_antisymm ((h _).2 (Nat.le_refl _)) ((h _).1 (Nat.le_refl _))
theorem bl_mono {a b : Nat} (h : a ≤ b) : bl a ≤ bl b := bl_le.2 (Nat.lt_of_le_of_lt h (lt_bl b))
/-- So many bits on. -/
theorem bl_shift {n k : Nat} (h : 2 ^ k ≤ n) : bl n = k + bl (n / 2 ^ k) := by
  have h1 : k < bl n := bl_ge.2 h
  apply Nat.le_antisymm
  · rw [bl_le, Nat.pow_add, Nat.mul_comm, ← Nat.div_lt_iff_lt_mul (Nat.two_pow_pos k)]
    exact lt_bl _
  · have : bl (n / 2 ^ k) ≤ bl n - k := by
      rw [bl_le, Nat.div_lt_iff_lt_mul (Nat.two_pow_pos k), ← Nat.pow_add]
      rw [Nat.sub_add_cancel (Nat.le_of_lt h1)]
      exact lt_bl n
    omega
theorem bl_mul {n : Nat} (h : 0 < n) (k : Nat) : bl (n * 2 ^ k) = bl n + k := by
  have := bl_shift (n := n * 2 ^ k) (k := k) (Nat.le_mul_of_pos_left _ h)
  rw [Nat.mul_div_cancel _ (Nat.two_pow_pos k)] at this
  omega

end Go.Proofs.YtaopinmjgjpiiaaGreatDoor.Wd
