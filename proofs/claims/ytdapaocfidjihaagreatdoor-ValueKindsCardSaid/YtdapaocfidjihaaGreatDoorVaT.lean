/-
  Layer 14 (values): the order is one; comparisons turned round: the laws in plain words. No program stands here.
-/
import Derived.Test.YtdapaocfidjihaaGreatDoorVaS
namespace Go.Proofs.YtdapaocfidjihaaGreatDoor.VaS
open Go

theorem cmpI_le_trans {x y z : Int} (h1 : cmpI x y ≤ 0) (h2 : cmpI y z ≤ 0) : cmpI x z ≤ 0 ∧ (cmpI x z = 0 → cmpI x y = 0 ∧ cmpI y z = 0) := by
  rcases cmpI_range x y with ⟨a, a'⟩ | ⟨a, a'⟩ | ⟨a, a'⟩ <;> rcases cmpI_range y z with ⟨b, b'⟩ | ⟨b, b'⟩ | ⟨b, b'⟩ <;> rcases cmpI_range x z with ⟨c, c'⟩ | ⟨c, c'⟩ | ⟨c, c'⟩ <;> omega

theorem bytes_range : ∀ a b : List UInt8, Lib.compareBytes a b = -1 ∨ Lib.compareBytes a b = 0 ∨ Lib.compareBytes a b = 1
  | [], [] => by simp [Lib.compareBytes]
  | [], _ :: _ => by simp [Lib.compareBytes]
  | _ :: _, [] => by simp [Lib.compareBytes]
  | a :: l, b :: m => by
    simp only [Lib.compareBytes]
    split
    · exact .inl rfl
    · split
      · exact .inr (.inr rfl)
      · exact bytes_range l m

theorem bytes_cons (a b : UInt8) (l m : List UInt8) : Lib.compareBytes (a :: l) (b :: m) = if a.toNat < b.toNat then -1 else if b.toNat < a.toNat then 1 else Lib.compareBytes l m := by
  simp only [Lib.compareBytes, UInt8.lt_iff_toNat_lt]

theorem bytes_trans : ∀ a b c : List UInt8, Lib.compareBytes a b ≤ 0 → Lib.compareBytes b c ≤ 0 → Lib.compareBytes a c ≤ 0
  | [], _, [], _, _ => by simp [Lib.compareBytes]
  | [], _, _ :: _, _, _ => by simp [Lib.compareBytes]
  | _ :: _, [], _, h, _ => by simp [Lib.compareBytes] at h
  | _ :: _, _ :: _, [], _, h => by simp [Lib.compareBytes] at h
  | a :: l, b :: m, c :: n, h1, h2 => by
    rw [bytes_cons] at h1 h2 ⊢
    have ih := bytes_trans l m n
    by_cases x1 : a.toNat < b.toNat
    · by_cases x2 : b.toNat < c.toNat
      · rw [if_pos (by omega)]; decide
      · rw [if_neg x2] at h2
        by_cases x3 : c.toNat < b.toNat
        · rw [if_pos x3] at h2; omega
        · rw [if_pos (by omega)]; decide
    · rw [if_neg x1] at h1
      by_cases x2 : b.toNat < a.toNat
      · rw [if_pos x2] at h1; omega
      · rw [if_neg x2] at h1
        by_cases x3 : b.toNat < c.toNat
        · rw [if_pos (by omega)]; decide
        · rw [if_neg x3] at h2
          by_cases x4 : c.toNat < b.toNat
          · rw [if_pos x4] at h2; omega
          · rw [if_neg x4] at h2
            rw [if_neg (by omega), if_neg (by omega)]
            exact ih h1 h2

theorem orderV_self (a : Val) : orderV a a = 0 := by
  have h := orderV_turn a a
  omega

theorem orderV_range (a b : Val) : orderV a b = -1 ∨ orderV a b = 0 ∨ orderV a b = 1 := by
  have hc : ∀ x y : Int, cmpI x y = -1 ∨ cmpI x y = 0 ∨ cmpI x y = 1 := fun x y => by
    rcases cmpI_range x y with ⟨h, _⟩ | ⟨h, _⟩ | ⟨h, _⟩ <;> omega
  unfold orderV
  split
  · exact hc _ _
  · split
    · exact hc _ _
    · split
      · exact bytes_range _ _
      · split
        · exact hc _ _
        · split
          · exact hc _ _
          · exact .inr (.inl rfl)

theorem orderV_trans (a b c : Val) (h1 : orderV a b ≤ 0) (h2 : orderV b c ≤ 0) : orderV a c ≤ 0 := by
  have t1 : cmpI a.k b.k ≤ 0 := by
    unfold orderV at h1
    split at h1
    · exact h1
    · omega
  have t2 : cmpI b.k c.k ≤ 0 := by
    unfold orderV at h2
    split at h2
    · exact h2
    · omega
  obtain ⟨t3, t4⟩ := cmpI_le_trans t1 t2
  by_cases hz : cmpI a.k c.k = 0
  · obtain ⟨z1, z2⟩ := t4 hz
    have kb : b.k = a.k := by rcases cmpI_range a.k b.k with ⟨h, h'⟩ | ⟨h, h'⟩ | ⟨h, h'⟩ <;> omega
    unfold orderV at h1 h2 ⊢
    rw [if_neg (by omega)] at h1 h2 ⊢
    rw [kb] at h2
    by_cases k1 : a.k = 1
    · rw [if_pos k1] at h1 h2 ⊢
      exact (cmpI_le_trans h1 h2).1
    · rw [if_neg k1] at h1 h2 ⊢
      by_cases k2 : a.k = 2
      · rw [if_pos k2] at h1 h2 ⊢
        exact bytes_trans _ _ _ h1 h2
      · rw [if_neg k2] at h1 h2 ⊢
        by_cases k3 : a.k = 3
        · rw [if_pos k3] at h1 h2 ⊢
          exact (cmpI_le_trans h1 h2).1
        · rw [if_neg k3] at h1 h2 ⊢
          by_cases k4 : a.k = 4
          · rw [if_pos k4] at h1 h2 ⊢
            exact (cmpI_le_trans h1 h2).1
          · rw [if_neg k4]; decide
  · unfold orderV
    rw [if_pos hz]
    exact t3

/-- Below, equal, above. -/
def trio (a b : Val) : Bool × Bool × Bool :=
  if (besideV a b).k = 1 ∧ (besideV b a).k = 1 then
    (Ieee.double.order (besideV a b).x (besideV b a).x == some .lt, Ieee.double.order (besideV a b).x (besideV b a).x == some .eq, Ieee.double.order (besideV a b).x (besideV b a).x == some .gt)
  else (decide (orderV (besideV a b) (besideV b a) < 0), orderV (besideV a b) (besideV b a) == 0, decide (orderV (besideV a b) (besideV b a) > 0))

theorem compareV_trio (op : Int) (a b : Val) (ho : isOp op = true) (ha : faultI a = 0) (hb : faultI b = 0) : compareV op a b = truthV (askB op (trio a b).1 (trio a b).2.1 (trio a b).2.2) := by
  unfold compareV trio
  rw [if_neg (by rw [ho]; simp), if_neg (fun h => h ha), if_neg (fun h => h hb)]
  split <;> rfl

theorem compare_eq (x y : Int) : compare x y = if x < y then Ordering.lt else if x = y then .eq else .gt := rfl

theorem trio_turn (a b : Val) (ha : a.x < 18446744073709551616) (hb : b.x < 18446744073709551616) : trio b a = ((trio a b).2.2, (trio a b).2.1, (trio a b).1) := by
  have hz : ∀ v w : Val, v.x < 18446744073709551616 → (besideV v w).x < 18446744073709551616 := fun v w h => by
    unfold besideV
    split
    · exact Nat.zero_lt_succ _
    · exact h
  have h1 := hz a b ha
  have h2 := hz b a hb
  unfold trio
  generalize besideV a b = u at *
  generalize besideV b a = v at *
  by_cases hk : u.k = 1 ∧ v.k = 1
  · rw [if_pos hk, if_pos ⟨hk.2, hk.1⟩, order_eq h1 h2, order_eq h2 h1, ordF_gt u.x v.x, ordF_gt v.x u.x]
    have e : (ordF v.x u.x == some .eq) = (ordF u.x v.x == some .eq) := by
      unfold ordF
      rw [Bool.or_comm]
      split
      · rfl
      · simp only [compare_eq]
        by_cases c1 : sval u.x < sval v.x
        · rw [if_pos c1, if_neg (by omega), if_neg (by omega)]; rfl
        · by_cases c2 : sval u.x = sval v.x
          · rw [if_neg c1, if_pos c2, if_neg (by omega), if_pos c2.symm]
          · rw [if_neg c1, if_neg c2, if_pos (by omega)]; rfl
    rw [e]
  · rw [if_neg hk, if_neg (fun h => hk ⟨h.2, h.1⟩), orderV_turn u v]
    have e1 : decide (-orderV u v < 0) = decide (orderV u v > 0) := by rw [decide_eq_decide]; omega
    have e2 : (-orderV u v == 0) = (orderV u v == 0) := by
      by_cases c : orderV u v = 0
      · rw [c]; rfl
      · rw [beq_eq_false_iff_ne.2 c]; exact beq_eq_false_iff_ne.2 (by omega)
    have e3 : decide (-orderV u v > 0) = decide (orderV u v < 0) := by rw [decide_eq_decide]; omega
    rw [e1, e2, e3]

/-- Just one of the three, but for a NaN. -/
theorem trio_one (a b : Val) (ha : a.x < 18446744073709551616) (hb : b.x < 18446744073709551616) (za : a.k = 0 → a.x = 0) (zb : b.k = 0 → b.x = 0) :
    trio a b = (true, false, false) ∨ trio a b = (false, true, false) ∨ trio a b = (false, false, true) ∨ (trio a b = (false, false, false) ∧ (nanB a.x || nanB b.x) = true) := by
  have hz : ∀ v w : Val, v.x < 18446744073709551616 → (besideV v w).x < 18446744073709551616 := fun v w h => by
    unfold besideV
    split
    · exact Nat.zero_lt_succ _
    · exact h
  have hn : ∀ v w : Val, nanB (besideV v w).x = true → nanB v.x = true := fun v w h => by
    unfold besideV at h
    split at h
    · cases h
    · exact h
  have h1 := hz a b ha
  have h2 := hz b a hb
  have n1 := hn a b
  have n2 := hn b a
  unfold trio
  generalize besideV a b = u at *
  generalize besideV b a = v at *
  by_cases hk : u.k = 1 ∧ v.k = 1
  · rw [if_pos hk, order_eq h1 h2]
    unfold ordF
    cases hq : (nanB u.x || nanB v.x)
    · simp only [Bool.false_eq_true, if_false, compare_eq]
      by_cases c1 : sval u.x < sval v.x
      · rw [if_pos c1]; exact .inl rfl
      · by_cases c2 : sval u.x = sval v.x
        · rw [if_neg c1, if_pos c2]; exact .inr (.inl rfl)
        · rw [if_neg c1, if_neg c2]; exact .inr (.inr (.inl rfl))
    · rw [if_pos rfl]
      refine .inr (.inr (.inr ⟨rfl, ?_⟩))
      simp only [Bool.or_eq_true] at hq ⊢
      exact hq.imp n1 n2
  · rw [if_neg hk]
    rcases orderV_range u v with h | h | h <;> rw [h]
    · exact .inl rfl
    · exact .inr (.inl rfl)
    · exact .inr (.inr (.inl rfl))

def turnI (op : Int) : Int := if op = 12 then 14 else if op = 13 then 15 else if op = 14 then 12 else if op = 15 then 13 else op

theorem compare_turn (op : Int) (a b : Val) (ha : a.x < 18446744073709551616) (hb : b.x < 18446744073709551616) (fa : faultI a = 0) (fb : faultI b = 0) : compareV op a b = compareV (turnI op) b a := by
  cases ho : isOp op
  · have e : turnI op = op := by
      unfold isOp at ho
      unfold turnI
      by_cases c : 10 ≤ op
      · rw [decide_eq_true c, Bool.true_and] at ho
        have := of_decide_eq_false ho
        rw [if_neg (by omega), if_neg (by omega), if_neg (by omega), if_neg (by omega)]
      · rw [if_neg (by omega), if_neg (by omega), if_neg (by omega), if_neg (by omega)]
    rw [e]
    unfold compareV
    rw [if_pos ho, if_pos ho]
  · have ht := trio_turn a b ha hb
    rw [compareV_trio op a b ho fa fb]
    have h := ho
    simp only [isOp, Bool.and_eq_true, decide_eq_true_eq] at h
    have : op = 10 ∨ op = 11 ∨ op = 12 ∨ op = 13 ∨ op = 14 ∨ op = 15 := by omega
    rcases this with e | e | e | e | e | e <;> subst e
    · rw [compareV_trio _ b a (by decide) fb fa, ht]; rfl
    · rw [compareV_trio _ b a (by decide) fb fa, ht]; rfl
    · rw [compareV_trio _ b a (by decide) fb fa, ht]; rfl
    · rw [compareV_trio _ b a (by decide) fb fa, ht]
      generalize (trio a b).1 = l
      generalize (trio a b).2.1 = e
      cases l <;> cases e <;> rfl
    · rw [compareV_trio _ b a (by decide) fb fa, ht]; rfl
    · rw [compareV_trio _ b a (by decide) fb fa, ht]
      generalize (trio a b).2.2 = l
      generalize (trio a b).2.1 = e
      cases l <;> cases e <;> rfl

end Go.Proofs.YtdapaocfidjihaaGreatDoor.VaS
