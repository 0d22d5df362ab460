/-
  Layer 14 (values): Valid, Same, turned; ValueOrder, as a contract.
-/
import Derived.Test.YtdapaocfidjihaaGreatDoorVaH
import Derived.Test.YtdapaocfidjihaaGreatDoorVaU
namespace Go.Proofs.YtdapaocfidjihaaGreatDoor
open Go Go.RowKit Ev VaS

/-- May a value be? -/
def validV (v : Val) : Bool :=
  if v.k = 0 then decide (v.x = 0) && (v.s == []) && (v.b == false) && (v.f == 0)
  else if v.k = 1 then (v.s == []) && (v.b == false) && (v.f == 0)
  else if v.k = 2 then (Lib.validD v.s && decide (v.s.length ≤ 1024)) && decide (v.x = 0) && (v.b == false) && (v.f == 0)
  else if v.k = 3 then decide (v.x = 0) && (v.s == []) && (v.f == 0)
  else if v.k = 4 then !badF v.f && decide (v.x = 0) && (v.s == []) && (v.b == false)
  else false

/-- All other fields are nought: as the program asks it. -/
def restB (x : Nat) (k : Int) (s : List UInt8) (b : Bool) (f : Int) : Bool :=
  match (Int.ofNat x == 0) with
  | true => k == k && (Op.floatEq FloatKind.f64 x 0 && (s == [] && (b == false && (f == 0 && true))))
  | false => false

theorem restB_eq (x : Nat) (k : Int) (s : List UInt8) (b : Bool) (f : Int) : restB x k s b f = (decide (x = 0) && (s == []) && (b == false) && (f == 0)) := by
  unfold restB
  by_cases h : x = 0
  · subst h
    have e : Op.floatEq FloatKind.f64 0 0 = true := by decide +kernel
    simp only [e]
    simp [Bool.and_assoc]
  · have e : (Int.ofNat x == 0) = false := beq_eq_false_iff_ne.2 (fun h' => h (Int.ofNat.inj h'))
    rw [e, decide_eq_false h]
    rfl

noncomputable def tabV7 : Tab := tabAdd 73 (fun args => match args with
    | [.string ⟨⟨s⟩⟩] => some (.bool (Lib.validD s), [lenOk s])
    | _ => none) tabV6
theorem tabV7_ok : PcOk Tryz.prog J0 tabV7 := tabAdd_ok (fun args v l h hl => by
  split at h
  · cases h; exact validString_pure _ hl.1
  · cases h) tabV6_ok
noncomputable def bV7 : Base := ⟨Tryz.prog, J0, false, tabV7, mtab0, 200, xtN0⟩
theorem bV7_ok : BaseOk bV7 := ⟨progOk, tabV7_ok, mtab0_ok _ _, xtN0_ok⟩

theorem valid_pure (v : Val) (hv : Okv v) : Pure Tryz.prog J0 22 [vv v] (.bool (validV v)) := by
  unfold validV
  by_cases h0 : v.k = 0
  · rw [if_pos h0, ← restB_eq v.x v.k]
    exact pure_of bV7_ok 5 [] [true] (l := [(v.k == 0) = true]) (by kernel_rfl) ⟨by rw [h0]; rfl, trivial⟩
  · have e0 : (v.k == 0) = false := by simp [h0]
    rw [if_neg h0]
    by_cases h1 : v.k = 1
    · rw [if_pos h1]
      have := pure_of bV7_ok 5 [] [false, true] (f := 22) (args := [vv v]) (v := .bool (v.k == v.k && (true && (v.s == [] && (v.b == false && (v.f == 0 && true)))))) (l := [(v.k == 1) = true, (v.k == 0) = false]) (by kernel_rfl) ⟨by rw [h1]; rfl, e0, trivial⟩
      have e : (v.k == v.k && (true && (v.s == [] && (v.b == false && (v.f == 0 && true))))) = ((v.s == []) && (v.b == false) && (v.f == 0)) := by simp [Bool.and_assoc]
      rw [e] at this
      exact this
    · have e1 : (v.k == 1) = false := by simp [h1]
      rw [if_neg h1]
      by_cases h2 : v.k = 2
      · rw [if_pos h2]
        have e2 : (v.k == 2) = true := by rw [h2]; rfl
        cases hb : (match !Lib.validD v.s with | true => true | false => decide ((v.s.length : Int) > 1024))
        · have hg : (Lib.validD v.s && decide (v.s.length ≤ 1024)) = true := by
            cases hd : Lib.validD v.s
            · rw [hd] at hb; cases hb
            · rw [hd] at hb
              have := of_decide_eq_false hb
              rw [Bool.true_and]
              exact decide_eq_true (by omega)
          have := pure_of bV7_ok 5 [] [false, false, true, false] (f := 22) (args := [vv v]) (v := .bool (restB v.x v.k [] v.b v.f)) (l := [(match !Lib.validD v.s with | true => true | false => decide ((v.s.length : Int) > 1024)) = false, lenOk v.s, (v.k == 2) = true, (v.k == 1) = false, (v.k == 0) = false]) (by kernel_rfl) ⟨hb, hv.s, e2, e1, e0, trivial⟩
          rw [restB_eq] at this
          rw [hg, Bool.true_and]
          have e : (decide (v.x = 0) && (([] : List UInt8) == []) && (v.b == false) && (v.f == 0)) = (decide (v.x = 0) && (v.b == false) && (v.f == 0)) := by simp
          rw [e] at this
          exact this
        · have hg : (Lib.validD v.s && decide (v.s.length ≤ 1024)) = false := by
            cases hd : Lib.validD v.s
            · rfl
            · rw [hd] at hb
              have := of_decide_eq_true hb
              rw [Bool.true_and]
              exact decide_eq_false (by omega)
          rw [hg]
          exact pure_of bV7_ok 5 [] [false, false, true, true] (l := [(match !Lib.validD v.s with | true => true | false => decide ((v.s.length : Int) > 1024)) = true, lenOk v.s, (v.k == 2) = true, (v.k == 1) = false, (v.k == 0) = false]) (by kernel_rfl) ⟨hb, hv.s, e2, e1, e0, trivial⟩
      · have e2 : (v.k == 2) = false := by simp [h2]
        rw [if_neg h2]
        by_cases h3 : v.k = 3
        · rw [if_pos h3]
          have := pure_of bV7_ok 5 [] [false, false, false, true] (f := 22) (args := [vv v]) (v := .bool (restB v.x v.k v.s false v.f)) (l := [(v.k == 3) = true, (v.k == 2) = false, (v.k == 1) = false, (v.k == 0) = false]) (by kernel_rfl) ⟨by rw [h3]; rfl, e2, e1, e0, trivial⟩
          rw [restB_eq] at this
          have e : (decide (v.x = 0) && (v.s == []) && (false == false) && (v.f == 0)) = (decide (v.x = 0) && (v.s == []) && (v.f == 0)) := by simp
          rw [e] at this
          exact this
        · have e3 : (v.k == 3) = false := by simp [h3]
          rw [if_neg h3]
          by_cases h4 : v.k = 4
          · rw [if_pos h4]
            cases hb : badF v.f
            · have := pure_of bV7_ok 5 [] [false, false, false, false, true, false] (f := 22) (args := [vv v]) (v := .bool (restB v.x v.k v.s v.b 0)) (l := [badF v.f = false, (v.k == 4) = true, (v.k == 3) = false, (v.k == 2) = false, (v.k == 1) = false, (v.k == 0) = false]) (by kernel_rfl) ⟨hb, by rw [h4]; rfl, e3, e2, e1, e0, trivial⟩
              rw [restB_eq] at this
              have e : (decide (v.x = 0) && (v.s == []) && (v.b == false) && ((0 : Int) == 0)) = (!false && decide (v.x = 0) && (v.s == []) && (v.b == false)) := by simp
              rw [e] at this
              exact this
            · exact pure_of bV7_ok 5 [] [false, false, false, false, true, true] (l := [badF v.f = true, (v.k == 4) = true, (v.k == 3) = false, (v.k == 2) = false, (v.k == 1) = false, (v.k == 0) = false]) (by kernel_rfl) ⟨hb, by rw [h4]; rfl, e3, e2, e1, e0, trivial⟩
          · rw [if_neg h4]
            exact pure_of bV7_ok 5 [] [false, false, false, false, false] (l := [(v.k == 4) = false, (v.k == 3) = false, (v.k == 2) = false, (v.k == 1) = false, (v.k == 0) = false]) (by kernel_rfl) ⟨by simp [h4], e3, e2, e1, e0, trivial⟩


end Go.Proofs.YtdapaocfidjihaaGreatDoor
