/-
  ValueKinds (layer 14), as a contract.
-/
import Derived.Test.YtdapaocfidjihaaGreatDoorVaQ
namespace Go.Proofs.YtdapaocfidjihaaGreatDoor
open Go Go.RowKit Ev VaS

def an (a b : Bool) : Bool := match a with
  | true => b
  | false => false
theorem an_eq (a b : Bool) : an a b = (a && b) := by cases a <;> rfl
theorem x_zero (x : Nat) : (Int.ofNat x == 0) = decide (x = 0) := by
  by_cases h : x = 0
  · subst h; rfl
  · rw [decide_eq_false h]; exact beq_eq_false_iff_ne.2 (fun h' => h (Int.ofNat.inj h'))
theorem not_eq (b : Bool) : (!b) = (b == false) := by cases b <;> rfl

noncomputable def tabV9 : Tab := tabAdd 74 (fun args => match args with
    | [.string ⟨⟨s⟩⟩] => some (.bool (Lib.validD s), [lenOk s])
    | _ => none) tabV8
theorem tabV9_ok : PcOk Tryz.prog J0 tabV9 := tabAdd_ok (fun args v l h hl => by
  split at h
  · cases h; exact utf8_pure _ hl.1
  · cases h) tabV8_ok
noncomputable def bV9 : Base := ⟨Tryz.prog, J0, false, tabV9, mtab0, 200, xtN0⟩
theorem bV9_ok : BaseOk bV9 := ⟨progOk, tabV9_ok, mtab0_ok _ _, xtN0_ok⟩

theorem bad_not (f : Int) : an (decide (f ≥ 1)) (decide (f ≤ 5)) = !badF f := by
  unfold badF an
  by_cases h1 : f < 1
  · rw [decide_eq_true h1, decide_eq_false (show ¬ f ≥ 1 by omega)]; rfl
  · rw [decide_eq_false h1, decide_eq_true (show f ≥ 1 by omega)]
    by_cases h2 : f > 5
    · rw [decide_eq_true h2]; exact decide_eq_false (by omega)
    · rw [decide_eq_false h2]; exact decide_eq_true (by omega)

theorem rvalid_pure (v : Val) (hv : Okv v) : Pure Tryz.prog J0 23 [vv v] (.bool (validV v)) := by
  unfold validV
  by_cases h0 : v.k = 0
  · rw [if_pos h0]
    have := pure_of bV9_ok 5 [] [true] (f := 23) (args := [vv v]) (v := .bool (an (an (an (Int.ofNat v.x == 0) (v.s == [])) (!v.b)) (v.f == 0))) (l := [(v.k == 0) = true]) (by kernel_rfl) ⟨by rw [h0]; rfl, trivial⟩
    rw [an_eq, an_eq, an_eq, x_zero, not_eq] at this
    exact this
  · have e0 : (v.k == 0) = false := by simp [h0]
    rw [if_neg h0]
    by_cases h1 : v.k = 1
    · rw [if_pos h1]
      have := pure_of bV9_ok 5 [] [false, true] (f := 23) (args := [vv v]) (v := .bool (an (an (v.s == []) (!v.b)) (v.f == 0))) (l := [(v.k == 1) = true, (v.k == 0) = false]) (by kernel_rfl) ⟨by rw [h1]; rfl, e0, trivial⟩
      rw [an_eq, an_eq, not_eq] at this
      exact this
    · have e1 : (v.k == 1) = false := by simp [h1]
      rw [if_neg h1]
      by_cases h2 : v.k = 2
      · rw [if_pos h2]
        have := pure_of bV9_ok 5 [] [false, false, true] (f := 23) (args := [vv v]) (v := .bool (an (an (an (an (Int.ofNat v.x == 0) (!v.b)) (v.f == 0)) (Lib.validD v.s)) (decide ((v.s.length : Int) ≤ 1024)))) (l := [lenOk v.s, (v.k == 2) = true, (v.k == 1) = false, (v.k == 0) = false]) (by kernel_rfl) ⟨hv.s, by rw [h2]; rfl, e1, e0, trivial⟩
        rw [an_eq, an_eq, an_eq, an_eq, x_zero, not_eq] at this
        have e : ((((decide (v.x = 0) && (v.b == false)) && (v.f == 0)) && Lib.validD v.s) && decide ((v.s.length : Int) ≤ 1024)) = (((Lib.validD v.s && decide (v.s.length ≤ 1024)) && decide (v.x = 0)) && (v.b == false) && (v.f == 0)) := by
          rw [show decide ((v.s.length : Int) ≤ 1024) = decide (v.s.length ≤ 1024) from decide_eq_decide.2 (by omega)]
          cases decide (v.x = 0) <;> cases (v.b == false) <;> cases (v.f == 0) <;> cases Lib.validD v.s <;> cases decide (v.s.length ≤ 1024) <;> rfl
        rw [e] at this
        exact this
      · have e2 : (v.k == 2) = false := by simp [h2]
        rw [if_neg h2]
        by_cases h3 : v.k = 3
        · rw [if_pos h3]
          have := pure_of bV9_ok 5 [] [false, false, false, true] (f := 23) (args := [vv v]) (v := .bool (an (an (Int.ofNat v.x == 0) (v.s == [])) (v.f == 0))) (l := [(v.k == 3) = true, (v.k == 2) = false, (v.k == 1) = false, (v.k == 0) = false]) (by kernel_rfl) ⟨by rw [h3]; rfl, e2, e1, e0, trivial⟩
          rw [an_eq, an_eq, x_zero] at this
          exact this
        · have e3 : (v.k == 3) = false := by simp [h3]
          rw [if_neg h3]
          by_cases h4 : v.k = 4
          · rw [if_pos h4]
            have := pure_of bV9_ok 5 [] [false, false, false, false, true] (f := 23) (args := [vv v]) (v := .bool (an (an (an (an (Int.ofNat v.x == 0) (v.s == [])) (!v.b)) (decide (v.f ≥ 1))) (decide (v.f ≤ 5)))) (l := [(v.k == 4) = true, (v.k == 3) = false, (v.k == 2) = false, (v.k == 1) = false, (v.k == 0) = false]) (by kernel_rfl) ⟨by rw [h4]; rfl, e3, e2, e1, e0, trivial⟩
            have e : an (an (an (an (Int.ofNat v.x == 0) (v.s == [])) (!v.b)) (decide (v.f ≥ 1))) (decide (v.f ≤ 5)) = (!badF v.f && decide (v.x = 0) && (v.s == []) && (v.b == false)) := by
              rw [← bad_not, x_zero, not_eq, an_eq, an_eq, an_eq, an_eq, an_eq]
              cases decide (v.x = 0) <;> cases (v.s == []) <;> cases (v.b == false) <;> cases decide (v.f ≥ 1) <;> cases decide (v.f ≤ 5) <;> rfl
            rw [e] at this
            exact this
          · rw [if_neg h4]
            exact pure_of bV9_ok 5 [] [false, false, false, false, false] (l := [(v.k == 4) = false, (v.k == 3) = false, (v.k == 2) = false, (v.k == 1) = false, (v.k == 0) = false]) (by kernel_rfl) ⟨by simp [h4], e3, e2, e1, e0, trivial⟩

noncomputable def tabVa : Tab := tabAdd 23 (v1 fun v => (.bool (validV v), [Okv v])) (tabAdd 24 (v2 fun v w => (.bool (orderV v w == 0), [Okv v, Okv w]))
  (tabAdd 25 (v2 fun v w => (.bool (rsameV v w), [Okv v, Okv w])) tabV9))
theorem tabVa_ok : PcOk Tryz.prog J0 tabVa := tabAdd_ok (v1_ok fun v h => rvalid_pure v h.1) (tabAdd_ok (v2_ok fun v w h => vsame_pure v w h.1 h.2.1) (tabAdd_ok (v2_ok fun v w h => rsame_pure v w h.1 h.2.1) tabV9_ok))
noncomputable def bVa : Base := ⟨Tryz.prog, J0, false, tabVa, mtab0, 200, xtN0⟩
theorem bVa_ok : BaseOk bVa := ⟨progOk, tabVa_ok, mtab0_ok _ _, xtN0_ok⟩

theorem valueKinds_pure (a b : Val) (ha : Okv a) (hb : Okv b) : Pure Tryz.prog J0 8 [vv a, vv b] (.bool true) := by
  have := pure_of bVa_ok 5 [] [] (f := 8) (args := [vv a, vv b]) (v := .bool (an (an (an true (validV a == validV a)) ((orderV a b == 0) == rsameV a b)) (orderV a b == orderV a b)))
    (l := [Okv a, Okv b, Okv a, Okv b, Okv a, Okv b, Okv a, Okv b, Okv a, Okv a]) (by kernel_rfl) ⟨ha, hb, ha, hb, ha, hb, ha, hb, ha, ha, trivial⟩
  rw [same_law a b ha hb, an_eq, an_eq, an_eq, beq_self_eq_true, beq_self_eq_true, beq_self_eq_true] at this
  exact this

end Go.Proofs.YtdapaocfidjihaaGreatDoor
