/-
  number.exponent's loop; what it answers.
-/
import Derived.Test.YtaopinmjgjpiiaaGreatDoorNbC
namespace Go.Proofs.YtaopinmjgjpiiaaGreatDoor
open Go Go.RowKit Ev

def nxP (n w : Int) : Int := if n * 10 + w < 1073741824 then n * 10 + w else 1073741824
theorem nx_eq {n w : Int} (h0 : 0 ≤ n) (h1 : n ≤ 1073741824) (w0 : 0 ≤ w) (w1 : w ≤ 16) : nxW n w = nxP n w := by
  unfold nxW nxP
  rw [show (Int.ofNat 10 : Int) = 10 from rfl, show (Int.ofNat 1073741824 : Int) = 1073741824 from rfl, wr (n := n * 10) (by omega) (by omega), wr (by omega) (by omega)]
theorem nx_range {n w : Int} (h0 : 0 ≤ n) (w0 : 0 ≤ w) : 0 ≤ nxP n w ∧ nxP n w ≤ 1073741824 := by
  unfold nxP
  split <;> omega
/-- The digits of an exponent: what they come to, where they end. -/
def exGo (t : List UInt8) : Nat → Nat → Int → Int × Nat
  | 0, k, n => (n, k)
  | f + 1, k, n => if worthV (chI t k) < 10 then exGo t f (k + 1) (nxP n (worthV (chI t k))) else (n, k)
theorem exGo_spec (t : List UInt8) : ∀ (f k : Nat) (n : Int), k + f = t.length → 0 ≤ n → n ≤ 1073741824 → k ≤ (exGo t f k n).2 ∧ (exGo t f k n).2 ≤ t.length ∧ 0 ≤ (exGo t f k n).1 ∧ (exGo t f k n).1 ≤ 1073741824
  | 0, k, n, h, h0, h1 => ⟨Nat.le_refl _, by show k ≤ _; omega, h0, h1⟩
  | f + 1, k, n, h, h0, h1 => by
    unfold exGo
    split
    · have hr := nx_range (w := worthV (chI t k)) h0 worth_range.1
      obtain ⟨a, b, c, d⟩ := exGo_spec t f (k + 1) _ (by omega) hr.1 hr.2
      exact ⟨by omega, b, c, d⟩
    · exact ⟨Nat.le_refl _, by show k ≤ _; omega, h0, h1⟩

theorem ch_ok (t : List UInt8) (k : Int) : chP t k := ⟨Int.natCast_nonneg _, Int.ofNat_lt.2 (UInt8.toNat_lt _)⟩
theorem exP1_ok (t : List UInt8) (i : Int) : exP1 t i := fun _ => ⟨Int.natCast_nonneg _, Int.ofNat_lt.2 (UInt8.toNat_lt _)⟩
theorem sgP2_ok (t : List UInt8) (i : Nat) : sgP2 t (i : Int) := fun hc => ⟨Int.natCast_nonneg _, by
  have : (i : Int) < (t.length : Int) := by simpa [condP, kvP, ltE] using hc
  rw [Int.toNat_natCast]
  omega⟩
theorem sgP1_ok (t : List UInt8) (i : Nat) : sgP1 t (i : Int) := fun hc => ⟨Int.natCast_nonneg _, by
  have : (i : Int) < (t.length : Int) := by
    have h := hc.2
    simpa [condP, kvP, ltE] using h
  rw [Int.toNat_natCast]
  omega⟩

theorem ex_loop {t : List UInt8} {a : Nat} {g : Bool} {f0 : Int} (hl : t.length < 9223372036854775807) : ∀ (f k : Nat) (n : Int), k + f = t.length → 0 ≤ n → n ≤ 1073741824 →
    LoopTo XNb1 cEx (tEx t a g n f0 k) (.exit 0) (tEx t a g (exGo t f k n).1 f0 ((exGo t f k n).2 : Int)) := by
  intro f k n hkf hn0 hn1
  obtain ⟨r, hr⟩ : ∃ r, exGo t f k n = r := ⟨_, rfl⟩
  rw [hr]
  refine loop_of (ι := Nat × Int) (fun x => tEx t a g x.2 f0 x.1) (fun x => t.length - x.1) (fun x => x.1 ≤ t.length ∧ (0 ≤ x.2 ∧ x.2 ≤ 1073741824) ∧ exGo t (t.length - x.1) x.1 x.2 = r) (by intro e; cases e) (fun x hx => ?_) (k, n) ⟨by show k ≤ _; omega, ⟨hn0, hn1⟩, by show exGo t (t.length - k) k n = r; rw [show t.length - k = f by omega]; exact hr⟩
  obtain ⟨k', n'⟩ := x
  obtain ⟨h1, h2, h3⟩ := hx
  simp only at h1 h2 h3 ⊢
  by_cases hlt : k' < t.length
  · have hb : ltE t (k' : Int) = true := decide_eq_true (by omega)
    have hi : inP t (k' : Int) := ⟨Int.natCast_nonneg _, by rw [Int.toNat_natCast]; exact hlt⟩
    have e1 : IntKind.i64.wrap ((k' : Int) + 1) = ((k' + 1 : Nat) : Int) := by rw [wr (by omega) (by omega)]; omega
    obtain ⟨q, hq⟩ : ∃ q, t.length - k' = q + 1 := ⟨t.length - k' - 1, by omega⟩
    rw [hq] at h3
    unfold exGo at h3
    by_cases hw : worthV (chI t (k' : Int)) < 10
    · rw [if_pos hw] at h3
      have hw0 := worth_range (c := chI t (k' : Int))
      have hnr := nx_range (w := worthV (chI t (k' : Int))) h2.1 hw0.1
      refine .inl ⟨(k' + 1, nxP n' (worthV (chI t (k' : Int)))), ⟨by show k' + 1 ≤ _; omega, hnr, by show exGo t (t.length - (k' + 1)) (k' + 1) _ = r; rw [show t.length - (k' + 1) = q by omega]; exact h3⟩, by show t.length - (k' + 1) < t.length - k'; omega, ?_⟩
      have := ex_go t a g n' f0 (k' : Int) ⟨ch_ok _ _, hi, by unfold exB; rw [hb]; exact decide_eq_true hw, exP1_ok _ _, sgP2_ok _ _, trivial⟩
      rw [e1, nx_eq h2.1 h2.2 hw0.1 hw0.2] at this
      exact this
    · rw [if_neg hw] at h3
      refine .inr ?_
      rw [← h3]
      exact ex_end t a g n' f0 (k' : Int) ⟨by unfold exB; rw [hb]; exact decide_eq_false hw, exP1_ok _ _, sgP2_ok _ _, trivial⟩
  · obtain rfl : k' = t.length := by omega
    rw [Nat.sub_self] at h3
    refine .inr ?_
    rw [← h3]
    exact ex_end t a g n' f0 _ ⟨by unfold exB ltE; rw [decide_eq_false (Int.lt_irrefl _)], exP1_ok _ _, sgP2_ok _ _, trivial⟩

/-- Where an exponent's digits begin; what number.exponent answers. -/
def exK (t : List UInt8) (a : Nat) : Nat := if sgB t ((a + 1 : Nat) : Int) = true then a + 2 else a + 1
def exR (t : List UInt8) (a : Nat) : Int × Nat := exGo t (t.length - exK t a) (exK t a) 0
def exN (t : List UInt8) (a : Nat) : Bool := sgB t ((a + 1 : Nat) : Int) && (chI t ((a + 1 : Nat) : Int) == 45)
def exV (t L : List UInt8) (a : Nat) : Int := if hdB t L a = true then 0 else if (exR t a).2 = exK t a then 0 else if exN t a = true then -(exR t a).1 else (exR t a).1
def exE (t L : List UInt8) (a : Nat) : Nat := if hdB t L a = true then a else if (exR t a).2 = exK t a then a else (exR t a).2

theorem hdP_ok {t : List UInt8} {a : Nat} (hl : t.length < 9223372036854775807) : hdP t (a : Int) := fun hc => by
  have : (a : Int) < (t.length : Int) := by simpa [condP, kvP, geB] using hc
  rw [wr (by omega) (by omega)]
  omega

theorem exponent_pure {t L : List UInt8} {a : Nat} (hl : t.length < 9223372036854775807) (hL : L.length < 4294967281) :
    Ev.Pure Tryz.prog J0 85 [.string ⟨⟨t⟩⟩, .int .i64 a, .string ⟨⟨L⟩⟩] (.tuple ⟨[.int .i64 (exV t L a), .int .i64 (exE t L a)]⟩) := by
  have hq : hdL t L (a : Int) := fun _ => hL
  have hp := hdP_ok (a := a) hl
  unfold exV exE
  cases hh : hdB t L a with
  | true =>
    simp only [if_true]
    exact pureN bNb1_ok (er_head t L a) ⟨hh, hq, hp, trivial⟩
  | false =>
    simp only [Bool.false_eq_true, if_false]
    have hlt : a < t.length := by
      unfold hdB at hh
      cases hg : geB t (a : Int) with
      | true => rw [hg] at hh; cases hh
      | false =>
        have : ¬((a : Int) ≥ (t.length : Int)) := of_decide_eq_false hg
        omega
    have e1 : IntKind.i64.wrap ((a : Int) + 1) = ((a + 1 : Nat) : Int) := by rw [wr (by omega) (by omega)]; omega
    cases hs : sgB t ((a + 1 : Nat) : Int) with
    | false =>
      have hK : exK t a = a + 1 := by unfold exK; rw [hs]; rfl
      have hN : exN t a = false := by unfold exN; rw [hs]; rfl
      obtain ⟨r1, r2, r3, r4⟩ := exGo_spec t (t.length - exK t a) (exK t a) 0 (by omega) (by decide) (by decide)
      have hloop : LoopTo XNb1 cEx (tEx t a false 0 ((a + 1 : Nat) : Int) ((a + 1 : Nat) : Int)) (.exit 0) (tEx t a false (exR t a).1 ((a + 1 : Nat) : Int) ((exR t a).2 : Int)) := by
        have := ex_loop (a := a) (g := false) (f0 := ((a + 1 : Nat) : Int)) hl (t.length - exK t a) (exK t a) 0 (by omega) (by decide) (by decide)
        rw [hK] at this
        unfold exR
        rw [hK]
        exact this
      have hi := fun ds => ex_into0 t L a ds (by rw [e1]; exact hloop)
      have hq0 : allP (eQ0 t L a) := by
        unfold eQ0
        rw [e1]
        exact ⟨hs, sgP1_ok _ _, sgP2_ok _ _, hh, hq, hp, trivial⟩
      rw [hN]
      simp only [Bool.false_eq_true, if_false]
      by_cases he : (exR t a).2 = exK t a
      · rw [if_pos he, if_pos he]
        rw [hK] at he
        exact pureN bNb1_ok (er_0n t L a false (exR t a).1 ((a + 1 : Nat) : Int) ((exR t a).2 : Int)) ⟨by rw [he]; exact beq_self_eq_true _, hi [true], hq0⟩
      · rw [if_neg he, if_neg he]
        rw [hK] at he
        exact pureN bNb1_ok (er_0p t L a false (exR t a).1 ((a + 1 : Nat) : Int) ((exR t a).2 : Int)) ⟨rfl, beq_false_of_ne (by omega), hi [false, false], hq0⟩
    | true =>
      have hk : a + 1 < t.length := by
        unfold sgB at hs
        cases hg : ltE t ((a + 1 : Nat) : Int) with
        | false => rw [hg] at hs; cases hs
        | true =>
          have : ((a + 1 : Nat) : Int) < (t.length : Int) := of_decide_eq_true hg
          omega
      have hK : exK t a = a + 2 := by unfold exK; rw [hs]; rfl
      have hN : exN t a = (chI t ((a + 1 : Nat) : Int) == 45) := by unfold exN; rw [hs]; rfl
      have e2 : IntKind.i64.wrap (((a + 1 : Nat) : Int) + 1) = ((a + 2 : Nat) : Int) := by rw [wr (by omega) (by omega)]; omega
      obtain ⟨r1, r2, r3, r4⟩ := exGo_spec t (t.length - exK t a) (exK t a) 0 (by omega) (by decide) (by decide)
      have hloop : LoopTo XNb1 cEx (tEx t a (exN t a) 0 ((a + 2 : Nat) : Int) ((a + 2 : Nat) : Int)) (.exit 0) (tEx t a (exN t a) (exR t a).1 ((a + 2 : Nat) : Int) ((exR t a).2 : Int)) := by
        have := ex_loop (a := a) (g := exN t a) (f0 := ((a + 2 : Nat) : Int)) hl (t.length - exK t a) (exK t a) 0 (by omega) (by decide) (by decide)
        rw [hK] at this
        unfold exR
        rw [hK]
        exact this
      have hi := fun ds => ex_into1 t L a ds (by rw [e1, e2, ← hN]; exact hloop)
      have hq1 : allP (eQ1 t L a) := by
        unfold eQ1
        rw [e1]
        exact ⟨⟨Int.natCast_nonneg _, by rw [Int.toNat_natCast]; exact hk⟩, hs, sgP1_ok _ _, sgP2_ok _ _, hh, hq, hp, trivial⟩
      by_cases he : (exR t a).2 = exK t a
      · rw [if_pos he, if_pos he]
        rw [hK] at he
        exact pureN bNb1_ok (er_1n t L a (exN t a) (exR t a).1 ((a + 2 : Nat) : Int) ((exR t a).2 : Int)) ⟨by rw [he]; exact beq_self_eq_true _, hi [true], hq1⟩
      · rw [if_neg he, if_neg he]
        rw [hK] at he
        cases hn : exN t a with
        | true =>
          rw [hn] at hi
          have : Ev.Pure Tryz.prog J0 _ _ _ := pureN bNb1_ok (er_1m t L a true (exR t a).1 ((a + 2 : Nat) : Int) ((exR t a).2 : Int)) ⟨rfl, beq_false_of_ne (by omega), hi [false, true], hq1⟩
          rw [show IntKind.i64.wrap (Int.ofNat 0 - (exR t a).1) = -(exR t a).1 by
            unfold exR
            rw [show (Int.ofNat 0 : Int) = 0 from rfl, wr (by omega) (by omega)]
            omega] at this
          simpa using this
        | false =>
          rw [hn] at hi
          have : Ev.Pure Tryz.prog J0 _ _ _ := pureN bNb1_ok (er_1p t L a false (exR t a).1 ((a + 2 : Nat) : Int) ((exR t a).2 : Int)) ⟨rfl, beq_false_of_ne (by omega), hi [false, false], hq1⟩
          simpa using this

end Go.Proofs.YtaopinmjgjpiiaaGreatDoor
