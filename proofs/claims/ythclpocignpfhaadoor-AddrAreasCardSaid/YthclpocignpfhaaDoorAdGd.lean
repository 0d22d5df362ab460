/-
  Layer 10 (addr), AddrAreas: 'gone' answers true.
-/
import Derived.Test.YthclpocignpfhaaDoorAdGc
namespace Go.Proofs.YthclpocignpfhaaDoor
open Go Go.RowKit Ev AdS

/-! Where a going over stands. -/

structure Walk (a b c d x y k : Int) : Prop where
  ax : a ≤ x
  xc : x ≤ c
  by' : b ≤ y
  yd : y ≤ d
  k : k = (y - b) * (c - a + 1) + (x - a)

def wmu (a c d x y : Int) : Nat := ((d - y) * (c - a + 1) + (c - x)).toNat

section
variable {a b c d x y k : Int} (hv : areaB a b c d = true) (h : Walk a b c d x y k)

theorem walk_start (hv : areaB a b c d = true) : Walk a b c d a b 0 := by
  have := areaB_iff.1 hv
  exact ⟨Int.le_refl _, this.2.2.1, Int.le_refl _, this.2.2.2, by simp⟩

include hv h in
theorem walk_w3 : allP (W3 (cellsNs a b c d) (cellsN a b c d) k x y) := w3_ok hv h.ax h.xc h.by' h.yd h.k

include hv h in
theorem walk_bound : 0 ≤ k ∧ k < (cellsN a b c d : Int) ∧ (cellsN a b c d : Int) ≤ 1048576 := by
  have hv' := areaB_iff.1 hv
  have v1 := validB_iff.1 hv'.1
  have v2 := validB_iff.1 hv'.2.1
  rw [(cells_count hv).1]
  obtain ⟨h1, h2, h3, h4, h5⟩ := h
  have hN := mul_bound (x := c - a + 1) (y := d - b + 1) (by omega) (by omega) (by omega) (by omega)
  have hm1 : 0 ≤ (y - b) * (c - a + 1) := Int.mul_nonneg (by omega) (by omega)
  have hm : (y - b) * (c - a + 1) ≤ (d - b) * (c - a + 1) := Int.mul_le_mul_of_nonneg_right (by omega) (by omega)
  have hm2 : (d - b + 1) * (c - a + 1) = (d - b) * (c - a + 1) + (c - a + 1) := by rw [Int.add_mul, Int.one_mul]
  have hm3 : (c - a + 1) * (d - b + 1) = (d - b + 1) * (c - a + 1) := Int.mul_comm _ _
  omega

include hv h in
theorem walk_w1 : w1 x = x + 1 ∧ w1 y = y + 1 ∧ w1 k = k + 1 := by
  have hv' := areaB_iff.1 hv
  have v1 := validB_iff.1 hv'.1
  have v2 := validB_iff.1 hv'.2.1
  have hb := walk_bound hv h
  obtain ⟨h1, h2, h3, h4, h5⟩ := h
  exact ⟨wrapS (by omega) (by omega), wrapS (by omega) (by omega), wrapS (by omega) (by omega)⟩

include h in
theorem walk_next (hl : ¬ c < x + 1) : Walk a b c d (x + 1) y (k + 1) ∧ wmu a c d (x + 1) y < wmu a c d x y := by
  obtain ⟨h1, h2, h3, h4, h5⟩ := h
  have hm1 : 0 ≤ (d - y) * (c - a + 1) := Int.mul_nonneg (by omega) (by omega)
  refine ⟨⟨by omega, by omega, h3, h4, by omega⟩, ?_⟩
  unfold wmu
  omega

include h in
theorem walk_wrap (hn : ¬ (x = c ∧ y = d)) (hl : c < x + 1) : Walk a b c d a (y + 1) (k + 1) ∧ wmu a c d a (y + 1) < wmu a c d x y := by
  obtain ⟨h1, h2, h3, h4, h5⟩ := h
  have hlt : y < d := by
    rcases Int.lt_or_le y d with h' | h'
    · exact h'
    · exact absurd ⟨by omega, by omega⟩ hn
  have hm1 : (y + 1 - b) * (c - a + 1) = (y - b) * (c - a + 1) + (c - a + 1) := by
    rw [show y + 1 - b = (y - b) + 1 by omega, Int.add_mul, Int.one_mul]
  have hm2 : (d - y) * (c - a + 1) = (d - (y + 1)) * (c - a + 1) + (c - a + 1) := by
    rw [show d - y = (d - (y + 1)) + 1 by omega, Int.add_mul, Int.one_mul]
  have hm3 : 0 ≤ (d - (y + 1)) * (c - a + 1) := Int.mul_nonneg (by omega) (by omega)
  refine ⟨⟨Int.le_refl _, by omega, by omega, by omega, by omega⟩, ?_⟩
  unfold wmu
  omega

include hv h in
theorem walk_last (hn : x = c ∧ y = d) : k + 1 = (cellsN a b c d : Int) := by
  rw [(cells_count hv).1]
  obtain ⟨h1, h2, h3, h4, h5⟩ := h
  obtain ⟨rfl, rfl⟩ := hn
  rw [h5, Int.add_mul, Int.one_mul]
  omega

theorem at_last : ((x == c && (y == d && true)) = true) ↔ (x = c ∧ y = d) := by simp
theorem at_notlast (hn : ¬ (x = c ∧ y = d)) : (x == c && (y == d && true)) = false := by
  cases h' : (x == c && (y == d && true))
  · rfl
  · exact absurd (at_last.1 h') hn
end

/-! The first. -/

structure Wk where
  x : Int
  y : Int
  k : Int

section
variable {a b c d : Int} (hv : areaB a b c d = true) (leave : Int) (cap : Nat)

noncomputable abbrev SAv (a b c d leave : Int) (cap : Nat) : St := SA a b c d leave (cellsNs a b c d) (cellsN a b c d) cap
noncomputable abbrev SBv (a b c d leave : Int) (cap : Nat) (kA : Int) : St := SB a b c d leave (cellsNs a b c d) (cellsN a b c d) cap kA

/-- One round: on, or out at the last, or left. -/
theorem rA (hv : areaB a b c d = true) {x y k : Int} (h : Walk a b c d x y k) :
    (w1 k ≠ leave → (∃ x' y', Walk a b c d x' y' (k + 1) ∧ wmu a c d x' y' < wmu a c d x y ∧ Step X2 c49 (TA (SAv a b c d leave cap) false x y k) .normal (TA (SAv a b c d leave cap) false x' y' (k + 1))) ∨
      (k + 1 = (cellsN a b c d : Int) ∧ x = c ∧ y = d ∧ Step X2 c49 (TA (SAv a b c d leave cap) false x y k) .ret (TA (SAv a b c d leave cap) false x y (k + 1)))) ∧
    (w1 k = leave → Step X2 c49 (TA (SAv a b c d leave cap) false x y k) .ret (TA (SAv a b c d leave cap) true x y (k + 1))) := by
  have hw := walk_w3 hv h
  obtain ⟨e1, e2, e3⟩ := walk_w1 hv h
  constructor
  · intro hne
    have hne' : (w1 k == leave) = false := by simpa using hne
    by_cases hl : x = c ∧ y = d
    · right
      refine ⟨walk_last hv h hl, hl.1, hl.2, ?_⟩
      have := sA_last a b c d leave _ _ cap x y k ⟨at_last.2 hl, hne', hw⟩
      rw [e3] at this
      exact this
    · left
      by_cases hc : c < x + 1
      · obtain ⟨g1, g2⟩ := walk_wrap h hl hc
        have := sA_wrap a b c d leave _ _ cap x y k ⟨decide_eq_true (by rw [e1]; exact hc), at_notlast hl, hne', hw⟩
        rw [e2, e3] at this
        exact ⟨a, y + 1, g1, g2, this⟩
      · obtain ⟨g1, g2⟩ := walk_next h hc
        have := sA_next a b c d leave _ _ cap x y k ⟨decide_eq_false (by rw [e1]; exact hc), at_notlast hl, hne', hw⟩
        rw [e1, e3] at this
        exact ⟨x + 1, y, g1, g2, this⟩
  · intro he
    have := sA_break a b c d leave _ _ cap x y k ⟨rfl, by simpa using he, hw⟩
    rw [e3] at this
    exact this

/-- Not left: to the end. -/
theorem loopA_end (hv : areaB a b c d = true) (hn : ¬ (1 ≤ leave ∧ leave ≤ (cellsN a b c d : Int))) :
    LoopTo X2 c49 (TA (SAv a b c d leave cap) false a b 0) .ret (TA (SAv a b c d leave cap) false c d (cellsN a b c d)) := by
  refine loop_of (fun i : Wk => TA (SAv a b c d leave cap) false i.x i.y i.k) (fun i => wmu a c d i.x i.y) (fun i => Walk a b c d i.x i.y i.k) (by intro e; cases e) (fun i hi => ?_) ⟨a, b, 0⟩ (walk_start hv)
  have hb := walk_bound hv hi
  have e3 := (walk_w1 hv hi).2.2
  rcases (rA leave cap hv hi).1 (by rw [e3]; omega) with ⟨x', y', g1, g2, g3⟩ | ⟨g1, g2, g3, g4⟩
  · exact .inl ⟨⟨x', y', i.k + 1⟩, g1, g2, g3⟩
  · right
    rw [g1] at g4
    rw [show TA (SAv a b c d leave cap) false i.x i.y (cellsN a b c d : Int) = TA (SAv a b c d leave cap) false c d (cellsN a b c d : Int) by rw [g2, g3]] at g4
    exact g4

/-- Where the n-th lies. -/
theorem walk_at (h1 : a ≤ c) {x y k : Int} (h : Walk a b c d x y k) : x = a + k % (c - a + 1) ∧ y = b + k / (c - a + 1) := by
  obtain ⟨g1, g2, g3, g4, g5⟩ := h
  rw [g5]
  have hpos : c - a + 1 ≠ 0 := by omega
  rw [Int.add_comm ((y - b) * (c - a + 1)) (x - a), Int.add_mul_emod_self_right, Int.add_mul_ediv_right _ _ hpos, Int.emod_eq_of_lt (by omega) (by omega), Int.ediv_eq_zero_of_lt (by omega) (by omega)]
  omega

/-- Left behind so many. -/
theorem loopA_left (hv : areaB a b c d = true) (h1 : 1 ≤ leave) (h2 : leave ≤ (cellsN a b c d : Int)) :
    LoopTo X2 c49 (TA (SAv a b c d leave cap) false a b 0) .ret (TA (SAv a b c d leave cap) true (a + (leave - 1) % (c - a + 1)) (b + (leave - 1) / (c - a + 1)) leave) := by
  have hac := (areaB_iff.1 hv).2.2.1
  refine loop_of (fun i : Wk => TA (SAv a b c d leave cap) false i.x i.y i.k) (fun i => wmu a c d i.x i.y) (fun i => Walk a b c d i.x i.y i.k ∧ i.k < leave) (by intro e; cases e) (fun i hi => ?_) ⟨a, b, 0⟩ ⟨walk_start hv, by simp only; omega⟩
  obtain ⟨hi, hlt⟩ := hi
  have e3 := (walk_w1 hv hi).2.2
  by_cases he : w1 i.k = leave
  · right
    have := (rA leave cap hv hi).2 he
    obtain ⟨f1, f2⟩ := walk_at hac hi
    rw [e3] at he
    have ek : i.k = leave - 1 := by omega
    rw [ek] at f1 f2
    rw [← f1, ← f2]
    rw [show i.k + 1 = leave by omega] at this
    exact this
  · left
    have he' := he
    rw [e3] at he'
    rcases (rA leave cap hv hi).1 he with ⟨x', y', g1, g2, g3⟩ | ⟨g1, _⟩
    · exact ⟨⟨x', y', i.k + 1⟩, ⟨g1, by simp only; omega⟩, g2, g3⟩
    · exfalso; omega

/-! The second. -/

theorem rB (kA : Int) (hv : areaB a b c d = true) {x y k : Int} (h : Walk a b c d x y k) :
    (∃ x' y', Walk a b c d x' y' (k + 1) ∧ wmu a c d x' y' < wmu a c d x y ∧ Step X2 c49 (TB (SBv a b c d leave cap kA) x y k) .normal (TB (SBv a b c d leave cap kA) x' y' (k + 1))) ∨
      (k + 1 = (cellsN a b c d : Int) ∧ x = c ∧ y = d ∧ Step X2 c49 (TB (SBv a b c d leave cap kA) x y k) .ret (TB (SBv a b c d leave cap kA) x y (k + 1))) := by
  have hw := walk_w3 hv h
  obtain ⟨e1, e2, e3⟩ := walk_w1 hv h
  by_cases hk : k = 1
  · subst hk
    have hv' := areaB_iff.1 hv
    have w0 := walk_start hv
    have hw0 := walk_w3 hv w0
    obtain ⟨u1, u2, u3⟩ := walk_w1 hv w0
    have hu3 : w1 0 = 1 := u3
    have hz : w1 1 = 2 := e3
    have hin : (!areaB a b c d) = false := by rw [hv]; rfl
    by_cases hW : c = a
    · -- one column
      subst hW
      have hx : x = c := by have := h.ax; have := h.xc; omega
      subst hx
      have hy : y = b + 1 := by have := h.k; rw [show x - x + 1 = 1 by omega, Int.mul_one] at this; omega
      subst hy
      have hnl : ¬ (x = x ∧ b = d) := fun hh => by have := h.yd; omega
      obtain ⟨p1, p2⟩ := walk_wrap w0 hnl (by omega)
      have p1 : Walk x b x d x (b + 1) 1 := p1
      have hw1 := walk_w3 hv p1
      by_cases hl : x = x ∧ b + 1 = d
      · right
        refine ⟨walk_last hv h hl, hl.1, hl.2, ?_⟩
        have := sB2b x b x d leave (cellsNs x b x d) (cellsN x b x d) cap kA x (b + 1) (by
          simp only [in2, allP_append, allP, List.cons_append, and_assoc]
          refine ⟨at_last.2 hl, ?_, ?_⟩
          · rw [u2]; exact at_last.2 hl
          · refine ⟨trivial, by rw [u2, hu3]; exact hw1, decide_eq_true (by rw [u1]; omega), at_notlast hnl, trivial, hw0, hin, trivial, hw⟩)
        rw [hz] at this
        exact this
      · left
        obtain ⟨q1, q2⟩ := walk_wrap h hl (by omega)
        have hw2 := walk_w3 hv q1
        have v2 := (walk_w1 hv h).2.1
        have := sB3a x b x d leave (cellsNs x b x d) (cellsN x b x d) cap kA x (b + 1) (by
          simp only [in3, allP_append, allP, List.cons_append, and_assoc]
          refine ⟨decide_eq_true (by rw [e1]; omega), at_notlast hl, trivial, trivial, ?_⟩
          rw [u2, hu3, hz, v2]
          exact ⟨hw2, decide_eq_true (by rw [u1]; omega), at_notlast hl, trivial, hw1, decide_eq_true (by rw [u1]; omega), at_notlast hnl, trivial, hw0, hin, trivial, hw⟩)
        rw [hz, e2] at this
        exact ⟨x, b + 1 + 1, q1, q2, this⟩
    · have hac := hv'.2.2.1
      have hy : y = b := by
        have h5 := h.k
        have h3 := h.by'
        have hx := h.ax
        rcases Int.lt_or_le b y with hlt | hle
        · have : (c - a + 1) ≤ (y - b) * (c - a + 1) := by
            have := Int.mul_le_mul_of_nonneg_right (show (1 : Int) ≤ y - b by omega) (show (0 : Int) ≤ c - a + 1 by omega)
            omega
          omega
        · omega
      subst hy
      have hx : x = a + 1 := by have := h.k; rw [show y - y = 0 by omega, Int.zero_mul] at this; omega
      subst hx
      have hnl0 : ¬ (a = c ∧ y = d) := fun hh => by omega
      by_cases hl : a + 1 = c ∧ y = d
      · right
        refine ⟨walk_last hv h hl, hl.1, hl.2, ?_⟩
        have := sB2a a y c d leave (cellsNs a y c d) (cellsN a y c d) cap kA (a + 1) y (by
          simp only [in2, allP_append, allP, List.cons_append, and_assoc]
          refine ⟨at_last.2 hl, ?_, ?_⟩
          · rw [u1]; exact at_last.2 hl
          · refine ⟨trivial, by rw [u1, hu3]; exact hw, decide_eq_false (by rw [u1]; omega), at_notlast hnl0, trivial, hw0, hin, trivial, hw⟩)
        rw [hz] at this
        exact this
      · left
        by_cases hc : c < a + 1 + 1
        · obtain ⟨q1, q2⟩ := walk_wrap h hl hc
          have hw2 := walk_w3 hv q1
          have := sB3b a y c d leave (cellsNs a y c d) (cellsN a y c d) cap kA (a + 1) y (by
            simp only [in3, allP_append, allP, List.cons_append, and_assoc]
            refine ⟨decide_eq_true (by rw [e1]; omega), at_notlast hl, trivial, trivial, ?_⟩
            rw [u1, u2, hu3, hz, e1]
            exact ⟨hw2, decide_eq_true (by omega), at_notlast hl, trivial, hw, decide_eq_false (by omega), at_notlast hnl0, trivial, hw0, hin, trivial, hw⟩)
          rw [hz, e2] at this
          exact ⟨a, y + 1, q1, q2, this⟩
        · obtain ⟨q1, q2⟩ := walk_next h hc
          have hw2 := walk_w3 hv q1
          have := sB3c a y c d leave (cellsNs a y c d) (cellsN a y c d) cap kA (a + 1) y (by
            simp only [in3, allP_append, allP, List.cons_append, and_assoc]
            refine ⟨decide_eq_false (by rw [e1]; omega), at_notlast hl, trivial, trivial, ?_⟩
            rw [u1, hu3, hz, e1]
            exact ⟨hw2, decide_eq_false (by omega), at_notlast hl, trivial, hw, decide_eq_false (by omega), at_notlast hnl0, trivial, hw0, hin, trivial, hw⟩)
          rw [hz, e1] at this
          exact ⟨a + 1 + 1, y, q1, q2, this⟩
  · have hk' : (k == 1) = false := by simpa using hk
    by_cases hl : x = c ∧ y = d
    · right
      refine ⟨walk_last hv h hl, hl.1, hl.2, ?_⟩
      have := sB_last a b c d leave _ _ cap kA x y k ⟨at_last.2 hl, hk', hw⟩
      rw [e3] at this
      exact this
    · left
      by_cases hc : c < x + 1
      · obtain ⟨g1, g2⟩ := walk_wrap h hl hc
        have := sB_wrap a b c d leave _ _ cap kA x y k ⟨decide_eq_true (by rw [e1]; exact hc), at_notlast hl, hk', hw⟩
        rw [e2, e3] at this
        exact ⟨a, y + 1, g1, g2, this⟩
      · obtain ⟨g1, g2⟩ := walk_next h hc
        have := sB_next a b c d leave _ _ cap kA x y k ⟨decide_eq_false (by rw [e1]; exact hc), at_notlast hl, hk', hw⟩
        rw [e1, e3] at this
        exact ⟨x + 1, y, g1, g2, this⟩

theorem loopB (kA : Int) (hv : areaB a b c d = true) :
    LoopTo X2 c49 (TB (SBv a b c d leave cap kA) a b 0) .ret (TB (SBv a b c d leave cap kA) c d (cellsN a b c d)) := by
  refine loop_of (fun i : Wk => TB (SBv a b c d leave cap kA) i.x i.y i.k) (fun i => wmu a c d i.x i.y) (fun i => Walk a b c d i.x i.y i.k) (by intro e; cases e) (fun i hi => ?_) ⟨a, b, 0⟩ (walk_start hv)
  rcases rB leave cap kA hv hi with ⟨x', y', g1, g2, g3⟩ | ⟨g1, g2, g3, g4⟩
  · exact .inl ⟨⟨x', y', i.k + 1⟩, g1, g2, g3⟩
  · right
    rw [g1] at g4
    rw [show TB (SBv a b c d leave cap kA) i.x i.y (cellsN a b c d : Int) = TB (SBv a b c d leave cap kA) c d (cellsN a b c d : Int) by rw [g2, g3]] at g4
    exact g4
end

end Go.Proofs.YthclpocignpfhaaDoor
