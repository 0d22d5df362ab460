/-
  Layer 14 (values): how two values stand; comparisons.
-/
import Derived.Test.YtdapaocfidjihaaGreatDoorVaE
namespace Go.Proofs.YtdapaocfidjihaaGreatDoor
open Go Go.RowKit Ev VaS

abbrev lenOk (s : List UInt8) : Prop := s.length ≤ 9223372036854775807

noncomputable def tabV2 : Tab :=
  tabAdd 77 (x2 fun x y => (vi (cmpI (keyI x) (keyI y)), [inU x, inU y]))
  (tabAdd 81 (u2 fun x y => (vi (cmpI (keyI x) (keyI y)), [inU x, inU y]))
  (tabAdd 75 (x1 fun x => (.int .u64 (Int.ofNat (oneX x)), [inU x]))
  (tabAdd 78 (s2 fun x y => (vi (Lib.compareBytes x y), []))
  (tabAdd 82 (s2 fun x y => (vi (Lib.compareBytes x y), [lenOk x])) tabV1))))

theorem tabV2_ok : PcOk Tryz.prog J0 tabV2 :=
  tabAdd_ok (x2_ok fun x y h => partsOrder_pure x y h.1 h.2.1)
  (tabAdd_ok (u2_ok fun x y h => ref01Order_pure x y h.1 h.2.1)
  (tabAdd_ok (x1_ok fun x h => bits_pure x h.1)
  (tabAdd_ok (s2_ok fun x y _ => stringsCompare_pure x y)
  (tabAdd_ok (s2_ok fun x y h => texts_pure x y h.1) tabV1_ok))))

noncomputable def bV2 : Base := ⟨Tryz.prog, J0, false, tabV2, mtab0, 200, xtN0⟩
theorem bV2_ok : BaseOk bV2 := ⟨progOk, tabV2_ok, mtab0_ok _ _, xtN0_ok⟩

structure Okv (v : Val) : Prop where
  x : inU v.x
  s : lenOk v.s

theorem one_in {x : Nat} (h : inU x) : inU (oneX x) := by
  unfold oneX
  split
  · exact Nat.lt_of_sub_ne_zero (by decide)
  · exact h

theorem key_one (x : Nat) : keyI (oneX x) = keyI x := by
  unfold oneX
  cases h : nanB x
  · simp
  · rw [if_pos rfl]
    unfold keyI
    rw [h, if_pos rfl]
    decide

theorem order_pure (v w : Val) (hv : Okv v) (hw : Okv w) : Pure Tryz.prog J0 26 [vv v, vv w] (vi (orderV v w)) := by
  unfold orderV
  by_cases h0 : cmpI v.k w.k = 0
  · rw [if_neg (by simpa using h0)]
    have e0 : (cmpI v.k w.k != 0) = false := by rw [h0]; rfl
    by_cases h1 : v.k = 1
    · rw [if_pos h1]
      exact pure_of bV2_ok 4 [] [false, true] (l := [inU v.x, inU w.x, (v.k == 1) = true, (cmpI v.k w.k != 0) = false]) (by kernel_rfl) ⟨hv.x, hw.x, by rw [h1]; rfl, e0, trivial⟩
    · have e1 : (v.k == 1) = false := by simp [h1]
      rw [if_neg h1]
      by_cases h2 : v.k = 2
      · rw [if_pos h2]
        exact pure_of bV2_ok 4 [] [false, false, true] (l := [(v.k == 2) = true, (v.k == 1) = false, (cmpI v.k w.k != 0) = false]) (by kernel_rfl) ⟨by rw [h2]; rfl, e1, e0, trivial⟩
      · have e2 : (v.k == 2) = false := by simp [h2]
        rw [if_neg h2]
        by_cases h3 : v.k = 3
        · rw [if_pos h3]
          exact pure_of bV2_ok 4 [] [false, false, false, true] (l := [(v.k == 3) = true, (v.k == 2) = false, (v.k == 1) = false, (cmpI v.k w.k != 0) = false]) (by kernel_rfl) ⟨by rw [h3]; rfl, e2, e1, e0, trivial⟩
        · have e3 : (v.k == 3) = false := by simp [h3]
          rw [if_neg h3]
          by_cases h4 : v.k = 4
          · rw [if_pos h4]
            exact pure_of bV2_ok 4 [] [false, false, false, false, true] (l := [(v.k == 4) = true, (v.k == 3) = false, (v.k == 2) = false, (v.k == 1) = false, (cmpI v.k w.k != 0) = false]) (by kernel_rfl) ⟨by rw [h4]; rfl, e3, e2, e1, e0, trivial⟩
          · have e4 : (v.k == 4) = false := by simp [h4]
            rw [if_neg h4]
            exact pure_of bV2_ok 4 [] [false, false, false, false, false] (l := [(v.k == 4) = false, (v.k == 3) = false, (v.k == 2) = false, (v.k == 1) = false, (cmpI v.k w.k != 0) = false]) (by kernel_rfl) ⟨e4, e3, e2, e1, e0, trivial⟩
  · rw [if_pos h0]
    exact pure_of bV2_ok 4 [] [true] (l := [(cmpI v.k w.k != 0) = true]) (by kernel_rfl) ⟨by simp [h0], trivial⟩

theorem rorder_pure (v w : Val) (hv : Okv v) (hw : Okv w) : Pure Tryz.prog J0 27 [vv v, vv w] (vi (orderV v w)) := by
  unfold orderV
  by_cases h0 : cmpI v.k w.k = 0
  · rw [if_neg (by simpa using h0)]
    have e0 : (cmpI v.k w.k != 0) = false := by rw [h0]; rfl
    by_cases h1 : v.k = 1
    · rw [if_pos h1, ← key_one v.x, ← key_one w.x]
      exact pure_of bV2_ok 4 [] [false, true] (l := [inU (oneX v.x), inU (oneX w.x), inU w.x, inU v.x, (v.k == 1) = true, (cmpI v.k w.k != 0) = false]) (by kernel_rfl) ⟨one_in hv.x, one_in hw.x, hw.x, hv.x, by rw [h1]; rfl, e0, trivial⟩
    · have e1 : (v.k == 1) = false := by simp [h1]
      rw [if_neg h1]
      by_cases h2 : v.k = 2
      · rw [if_pos h2]
        exact pure_of bV2_ok 4 [] [false, false, true] (l := [lenOk v.s, (v.k == 2) = true, (v.k == 1) = false, (cmpI v.k w.k != 0) = false]) (by kernel_rfl) ⟨hv.s, by rw [h2]; rfl, e1, e0, trivial⟩
      · have e2 : (v.k == 2) = false := by simp [h2]
        rw [if_neg h2]
        by_cases h3 : v.k = 3
        · rw [if_pos h3]
          exact pure_of bV2_ok 4 [] [false, false, false, true] (l := [(v.k == 3) = true, (v.k == 2) = false, (v.k == 1) = false, (cmpI v.k w.k != 0) = false]) (by kernel_rfl) ⟨by rw [h3]; rfl, e2, e1, e0, trivial⟩
        · have e3 : (v.k == 3) = false := by simp [h3]
          rw [if_neg h3]
          by_cases h4 : v.k = 4
          · rw [if_pos h4]
            exact pure_of bV2_ok 4 [] [false, false, false, false, true] (l := [(v.k == 4) = true, (v.k == 3) = false, (v.k == 2) = false, (v.k == 1) = false, (cmpI v.k w.k != 0) = false]) (by kernel_rfl) ⟨by rw [h4]; rfl, e3, e2, e1, e0, trivial⟩
          · have e4 : (v.k == 4) = false := by simp [h4]
            rw [if_neg h4]
            exact pure_of bV2_ok 4 [] [false, false, false, false, false] (l := [(v.k == 4) = false, (v.k == 3) = false, (v.k == 2) = false, (v.k == 1) = false, (cmpI v.k w.k != 0) = false]) (by kernel_rfl) ⟨e4, e3, e2, e1, e0, trivial⟩
  · rw [if_pos h0]
    exact pure_of bV2_ok 4 [] [true] (l := [(cmpI v.k w.k != 0) = true]) (by kernel_rfl) ⟨by simp [h0], trivial⟩

noncomputable def tabV3 : Tab :=
  tabAdd 26 (v2 fun v w => (vi (orderV v w), [Okv v, Okv w]))
  (tabAdd 27 (v2 fun v w => (vi (orderV v w), [Okv v, Okv w])) tabV2)
theorem tabV3_ok : PcOk Tryz.prog J0 tabV3 :=
  tabAdd_ok (v2_ok fun v w h => order_pure v w h.1 h.2.1) (tabAdd_ok (v2_ok fun v w h => rorder_pure v w h.1 h.2.1) tabV2_ok)
noncomputable def bV3 : Base := ⟨Tryz.prog, J0, false, tabV3, mtab0, 200, xtN0⟩
theorem bV3_ok : BaseOk bV3 := ⟨progOk, tabV3_ok, mtab0_ok _ _, xtN0_ok⟩

end Go.Proofs.YtdapaocfidjihaaGreatDoor
