/-
  Layer 14 (values): ValueOrder is true of any three values and any operation.
-/
import Derived.Test.YtdapaocfidjihaaGreatDoorVaL
namespace Go.Proofs.YtdapaocfidjihaaGreatDoor
open Go Go.RowKit Ev VaS

theorem valid_kind {v : Val} (h : validV v = true) : 0 ≤ v.k ∧ v.k ≤ 4 := by
  unfold validV at h
  by_cases h0 : v.k = 0
  · omega
  · rw [if_neg h0] at h
    by_cases h1 : v.k = 1
    · omega
    · rw [if_neg h1] at h
      by_cases h2 : v.k = 2
      · omega
      · rw [if_neg h2] at h
        by_cases h3 : v.k = 3
        · omega
        · rw [if_neg h3] at h
          by_cases h4 : v.k = 4
          · omega
          · rw [if_neg h4] at h
            cases h

theorem no_fault {v : Val} (h : validV v = true) (h4 : (v.k == 4) = false) : faultI v = 0 := by
  obtain ⟨k1, k2⟩ := valid_kind h
  have h4' : v.k ≠ 4 := beq_eq_false_iff_ne.1 h4
  have e1 : isFault v = false := by unfold isFault; rw [h4]
  have e2 : kindless v = false := by
    unfold kindless
    rw [decide_eq_false (show ¬ v.k < 0 by omega)]
    exact decide_eq_false (by omega)
  unfold faultI
  rw [e1, e2]
  rfl

theorem valid_zero {v : Val} (h : validV v = true) : v.k = 0 → v.x = 0 := fun hk => by
  unfold validV at h
  rw [if_pos hk] at h
  simp only [Bool.and_eq_true, decide_eq_true_eq] at h
  exact h.1.1.1

theorem order_first (a b c : Val) : (match match match !true with | true => true | false => orderV a b != IntKind.i64.wrap (0 - orderV b a) with | true => true | false => match match decide (orderV a b ≤ 0) with | true => decide (orderV b c ≤ 0) | false => false with | true => decide (orderV a c > 0) | false => false with | true => true | false => orderV a a != 0) = false := by
  have e1 : (orderV a b != IntKind.i64.wrap (0 - orderV b a)) = false := by
    have h := orderV_turn b a
    have hr := orderV_range b a
    rw [wrap_id (by omega) (by omega)]
    have : orderV a b = 0 - orderV b a := by omega
    rw [← this]
    simp
  have e2 : (match match decide (orderV a b ≤ 0) with | true => decide (orderV b c ≤ 0) | false => false with | true => decide (orderV a c > 0) | false => false) = false := by
    by_cases h1 : orderV a b ≤ 0
    · rw [decide_eq_true h1]
      by_cases h2 : orderV b c ≤ 0
      · rw [decide_eq_true h2]
        have := orderV_trans a b c h1 h2
        exact decide_eq_false (by omega)
      · rw [decide_eq_false h2]
    · rw [decide_eq_false h1]
  have e3 : (orderV a a != 0) = false := by rw [orderV_self]; rfl
  rw [e1]
  show (match (match match decide (orderV a b ≤ 0) with | true => decide (orderV b c ≤ 0) | false => false with | true => decide (orderV a c > 0) | false => false) with | true => true | false => orderV a a != 0) = false
  rw [e2]
  exact e3

theorem order_second (a b : Val) : (match match validV a with | true => validV b | false => false with | true => !(orderV a b == 0) == (orderV a b == 0) | false => false) = false := by
  have e : (!(orderV a b == 0) == (orderV a b == 0)) = false := by cases (orderV a b == 0) <;> rfl
  cases validV a
  · rfl
  · cases validV b
    · rfl
    · exact e

theorem valueOrder_pure (a b c : Val) (op : Int) (ha : Okv a) (hb : Okv b) (hc : Okv c) : Pure Tryz.prog J0 9 [vv a, vv b, vv c, vi op] (.bool true) := by
  have f1 := order_first a b c
  have f2 := order_second a b
  cases f3 : (match match match !validV a with | true => true | false => !validV b with | true => true | false => a.k == 4 with | true => true | false => b.k == 4)
  · have hva : validV a = true := by
      cases h : validV a
      · rw [h] at f3; cases f3
      · rfl
    have hvb : validV b = true := by
      cases h : validV b
      · rw [hva, h] at f3; cases f3
      · rfl
    have hka : (a.k == 4) = false := by
      cases h : (a.k == 4)
      · rfl
      · rw [hva, hvb, h] at f3; cases f3
    have hkb : (b.k == 4) = false := by
      rw [hva, hvb, hka] at f3
      exact f3
    have za := no_fault hva hka
    have zb := no_fault hvb hkb
    have c10 := compareV_trio 10 a b (by decide) za zb
    have c11 := compareV_trio 11 a b (by decide) za zb
    have c12 := compareV_trio 12 a b (by decide) za zb
    have c14 := compareV_trio 14 a b (by decide) za zb
    have k10 : compareV 10 a b = truthV (trio a b).2.1 := c10
    have k11 : compareV 11 a b = truthV (!(trio a b).2.1) := c11
    have k12 : compareV 12 a b = truthV (trio a b).1 := c12
    have k14 : compareV 14 a b = truthV (trio a b).2.2 := c14
    have f4 : (match match match match match !sameV (compareV op a b) (compareV (VaS.turnI op) b a) with | true => true | false => (compareV 10 a b).k != 3 with | true => true | false => (compareV 11 a b).k != 3 with | true => true | false => (compareV 12 a b).k != 3 with | true => true | false => (compareV 14 a b).k != 3 with | true => true | false => (compareV 10 a b).b == (compareV 11 a b).b) = false := by
      rw [← compare_turn op a b ha.x hb.x za zb, sameV_self, k10, k11, k12, k14]
      show ((trio a b).2.1 == !(trio a b).2.1) = false
      cases (trio a b).2.1 <;> rfl
    rcases trio_one a b ha.x hb.x (valid_zero hva) (valid_zero hvb) with ht | ht | ht | ⟨ht, hn⟩
    · exact vo_lt a b c op ha hb hc (by rw [k14, ht]; rfl) (by rw [k12, ht]; rfl) (by rw [k10, ht]; rfl) f4 f3 f2 f1
    · exact vo_eq a b c op ha hb hc (by rw [k14, ht]; rfl) (by rw [k12, ht]; rfl) (by rw [k10, ht]; rfl) f4 f3 f2 f1
    · exact vo_gt a b c op ha hb hc (by rw [k14, ht]; rfl) (by rw [k12, ht]; rfl) (by rw [k10, ht]; rfl) f4 f3 f2 f1
    · have := vo_nan a b c op ha hb hc (by rw [k14, ht]; rfl) (by rw [k12, ht]; rfl) (by rw [k10, ht]; rfl) f4 f3 f2 f1
      cases h : nanB a.x
      · rw [h, Bool.false_or] at hn
        rw [h] at this
        exact hn ▸ this
      · rw [h] at this
        exact this
  · exact vo_out a b c op ha hb hc f3 f2 f1

end Go.Proofs.YtdapaocfidjihaaGreatDoor
