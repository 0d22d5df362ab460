/-
  Layer 10 (addr), AddrMeet: the cells of an area, gone over by the law's own loop.
-/
import Derived.Test.YthclpocignpfhaaDoorAdA
namespace Go.Proofs.YthclpocignpfhaaDoor
open Go Go.RowKit Ev AdS

noncomputable def S7 (c r d s e f g h x y : Int) : St := enterAt (bA3.cx 10) 200 7 [vArea c r d s, vArea e f g h, vCell x y] [] 6 [false, false]
noncomputable def S49 (c r d s e f g h x y : Int) : St := startAt (bA3.cx 10) 200 49 [.func (.yield 54) ⟨[]⟩ ⟨[]⟩, .pointer (some ⟨42, 0, none⟩)] (S7 c r d s e f g h x y).heap (S7 c r d s e f g h x y).nid [false]
noncomputable def c49 : Code := loopAt Tryd.prog 49 0

/-- the states between two rounds -/
def T49 (S : St) (cx cy k lx ly : Int) : St :=
  match S with
  | ⟨_, hp, n, _, _, _, rd, mq, b⟩ => ⟨only 37 [(0, .func (.yield 54) ⟨[]⟩ ⟨[]⟩), (1, .pointer (some ⟨42, 0, none⟩)), (3, .pointer (some ⟨59, 0, none⟩))],
      ((hp.set 59 (.cells [vi cx, vi cy] 24)).set 50 (.cells [vi k] 3)).set 49 (.cells [vi lx, vi ly] 24), n, [], [], 0, rd, mq, b⟩

set_option maxRecDepth 100000 in
theorem step_next (c r d s e f g h x y cx cy k lx ly : Int) (h1 : ¬ d < IntKind.i64.wrap (cx + 1)) (h2 : ¬ (cx = d ∧ cy = s)) (h3 : k > 0 → orderI lx ly cx cy < 0) (h4 : inB c r d s cx cy = true) (h5 : validB cx cy = true) :
    Step (bA3.cx 10) c49 (T49 (S49 c r d s e f g h x y) cx cy k lx ly) .normal (T49 (S49 c r d s e f g h x y) (IntKind.i64.wrap (cx + 1)) cy (IntKind.i64.wrap (k + 1)) cx cy) :=
  step_of (Base.cx_ok bA3_ok 10).1 progOk.mixed [] 200 [false, false, false] [(59, 89)]
    (l := [decide (d < IntKind.i64.wrap (cx + 1)) = false, (cx == d && (cy == s && true)) = false, (decide (k > 0) && decide (orderI lx ly cx cy ≥ 0) || !inB c r d s cx cy || !validB cx cy) = false])
    (by kernel_rfl) (by
      simp only [allP, h4, h5, Bool.not_true, Bool.or_false, and_true, Bool.and_true]
      refine ⟨by simpa using h1, by simpa using h2, ?_⟩
      simp only [Bool.and_eq_false_imp, decide_eq_true_eq, decide_eq_false_iff_not]
      intro hk
      have := h3 hk
      omega) (by kernel_rfl) (by kernel_rfl)

set_option maxRecDepth 100000 in
theorem step_wrap (c r d s e f g h x y cx cy k lx ly : Int) (h1 : d < IntKind.i64.wrap (cx + 1)) (h2 : ¬ (cx = d ∧ cy = s)) (h3 : k > 0 → orderI lx ly cx cy < 0) (h4 : inB c r d s cx cy = true) (h5 : validB cx cy = true) :
    Step (bA3.cx 10) c49 (T49 (S49 c r d s e f g h x y) cx cy k lx ly) .normal (T49 (S49 c r d s e f g h x y) c (IntKind.i64.wrap (cy + 1)) (IntKind.i64.wrap (k + 1)) cx cy) :=
  step_of (Base.cx_ok bA3_ok 10).1 progOk.mixed [] 200 [false, false, true] [(59, 97)]
    (l := [decide (d < IntKind.i64.wrap (cx + 1)) = true, (cx == d && (cy == s && true)) = false, (decide (k > 0) && decide (orderI lx ly cx cy ≥ 0) || !inB c r d s cx cy || !validB cx cy) = false])
    (by kernel_rfl) (by
      simp only [allP, h4, h5, Bool.not_true, Bool.or_false, and_true, Bool.and_true]
      refine ⟨by simpa using h1, by simpa using h2, ?_⟩
      simp only [Bool.and_eq_false_imp, decide_eq_true_eq, decide_eq_false_iff_not]
      intro hk
      have := h3 hk
      omega) (by kernel_rfl) (by kernel_rfl)

set_option maxRecDepth 100000 in
theorem step_last (c r d s e f g h x y cx cy k lx ly : Int) (h2 : cx = d ∧ cy = s) (h3 : k > 0 → orderI lx ly cx cy < 0) (h4 : inB c r d s cx cy = true) (h5 : validB cx cy = true) :
    Step (bA3.cx 10) c49 (T49 (S49 c r d s e f g h x y) cx cy k lx ly) .ret (T49 (S49 c r d s e f g h x y) cx cy (IntKind.i64.wrap (k + 1)) cx cy) :=
  step_of (Base.cx_ok bA3_ok 10).1 progOk.mixed [] 200 [false, true] []
    (l := [(cx == d && (cy == s && true)) = true, (decide (k > 0) && decide (orderI lx ly cx cy ≥ 0) || !inB c r d s cx cy || !validB cx cy) = false])
    (by kernel_rfl) (by
      simp only [allP, h4, h5, Bool.not_true, Bool.or_false, and_true, Bool.and_true]
      refine ⟨by simpa using h2, ?_⟩
      simp only [Bool.and_eq_false_imp, decide_eq_true_eq, decide_eq_false_iff_not]
      intro hk
      have := h3 hk
      omega) (by kernel_rfl) (by kernel_rfl)

theorem order_right (a b : Int) : orderI a b (a + 1) b < 0 := by
  have h1 : cmpI b b = 0 := by unfold cmpI; split <;> omega
  have h2 : cmpI a (a + 1) = -1 := by unfold cmpI; split <;> omega
  unfold orderI
  rw [h1, h2]
  decide
theorem order_down (a b c : Int) : orderI a b c (b + 1) < 0 := by
  have h2 : cmpI b (b + 1) = -1 := by unfold cmpI; split <;> omega
  unfold orderI
  rw [h2]
  simp

/-- Where the going over stands. -/
structure At where
  cx : Int
  cy : Int
  k : Int
  lx : Int
  ly : Int

def At.good (c r d s : Int) (i : At) : Prop := c ≤ i.cx ∧ i.cx ≤ d ∧ r ≤ i.cy ∧ i.cy ≤ s ∧ i.k = (i.cy - r) * (d - c + 1) + (i.cx - c) ∧ (i.k > 0 → orderI i.lx i.ly i.cx i.cy < 0)

theorem loop49 (c r d s e f g h x y : Int) (ha : areaB c r d s = true) (i : At) (hi : i.good c r d s) :
    LoopTo (bA3.cx 10) c49 (T49 (S49 c r d s e f g h x y) i.cx i.cy i.k i.lx i.ly) .ret (T49 (S49 c r d s e f g h x y) d s ((d - c + 1) * (s - r + 1)) d s) := by
  have hv := areaB_iff.1 ha
  have hv1 := validB_iff.1 hv.1
  have hv2 := validB_iff.1 hv.2.1
  have hN := mul_bound (x := d - c + 1) (y := s - r + 1) (by omega) (by omega) (by omega) (by omega)
  refine loop_of (fun i : At => T49 (S49 c r d s e f g h x y) i.cx i.cy i.k i.lx i.ly) (fun i => ((s - i.cy) * (d - c + 1) + (d - i.cx)).toNat) (fun i => i.good c r d s) (by intro e; cases e) (fun i hi => ?_) i hi
  obtain ⟨g1, g2, g3, g4, g5, g6⟩ := hi
  obtain ⟨cx, cy, k, lx, ly⟩ := i
  simp only at g1 g2 g3 g4 g5 g6 ⊢
  have hin : inB c r d s cx cy = true := inB_iff.2 ⟨ha, g1, g2, g3, g4⟩
  have hval : validB cx cy = true := validB_iff.2 ⟨by omega, by omega, by omega, by omega⟩
  have hw1 : 0 ≤ (cy - r) * (d - c + 1) := Int.mul_nonneg (by omega) (by omega)
  have hw2 : (cy - r) * (d - c + 1) ≤ (s - r) * (d - c + 1) := Int.mul_le_mul_of_nonneg_right (by omega) (by omega)
  have hw3 : (d - c + 1) * (s - r + 1) = (s - r) * (d - c + 1) + (d - c + 1) := by
    rw [Int.mul_add, Int.mul_one, Int.mul_comm]
  have hw4 : 0 ≤ (s - cy) * (d - c + 1) := Int.mul_nonneg (by omega) (by omega)
  have hk : IntKind.i64.wrap (k + 1) = k + 1 := wrapS (by omega) (by omega)
  have hcx : IntKind.i64.wrap (cx + 1) = cx + 1 := wrapS (by omega) (by omega)
  have hcy : IntKind.i64.wrap (cy + 1) = cy + 1 := wrapS (by omega) (by omega)
  by_cases hlast : cx = d ∧ cy = s
  · right
    have := step_last c r d s e f g h x y cx cy k lx ly hlast g6 hin hval
    obtain ⟨rfl, rfl⟩ := hlast
    rw [hk] at this
    have e1 : (cx - c + 1) * (cy - r + 1) = k + 1 := by omega
    rw [e1]
    exact this
  · left
    by_cases hr : d < cx + 1
    · have := step_wrap c r d s e f g h x y cx cy k lx ly (by rw [hcx]; exact hr) hlast g6 hin hval
      rw [hk, hcy] at this
      have hne : cy < s := by
        rcases Int.lt_or_le cy s with h1 | h1
        · exact h1
        · exact absurd ⟨by omega, by omega⟩ hlast
      have hm1 : (cy + 1 - r) * (d - c + 1) = (cy - r) * (d - c + 1) + (d - c + 1) := by
        rw [show cy + 1 - r = (cy - r) + 1 by omega, Int.add_mul, Int.one_mul]
      have hm2 : (s - cy) * (d - c + 1) = (s - (cy + 1)) * (d - c + 1) + (d - c + 1) := by
        rw [show s - cy = (s - (cy + 1)) + 1 by omega, Int.add_mul, Int.one_mul]
      have hm3 : 0 ≤ (s - (cy + 1)) * (d - c + 1) := Int.mul_nonneg (by omega) (by omega)
      refine ⟨⟨c, cy + 1, k + 1, cx, cy⟩, ⟨by simp only; omega, by simp only; omega, by simp only; omega, by simp only; omega, ?_, fun _ => order_down cx cy c⟩, ?_, this⟩
      · simp only
        omega
      · simp only
        omega
    · have := step_next c r d s e f g h x y cx cy k lx ly (by rw [hcx]; exact hr) hlast g6 hin hval
      rw [hk, hcx] at this
      refine ⟨⟨cx + 1, cy, k + 1, cx, cy⟩, ⟨by simp only; omega, by simp only; omega, by simp only; omega, by simp only; omega, ?_, fun _ => order_right cx cy⟩, ?_, this⟩
      · simp only
        omega
      · simp only
        omega

/-- From the loop's beginning. -/
theorem loop49_start (c r d s e f g h x y : Int) (ha : areaB c r d s = true) :
    LoopTo (bA3.cx 10) c49 (S49 c r d s e f g h x y) .ret (T49 (S49 c r d s e f g h x y) d s ((d - c + 1) * (s - r + 1)) d s) := by
  have hv := areaB_iff.1 ha
  exact loop_into' (loop49 c r d s e f g h x y ha ⟨c, r, 0, 0, 0⟩ ⟨Int.le_refl _, hv.2.2.1, Int.le_refl _, hv.2.2.2, by simp, fun h => by cases h⟩) [] (by kernel_rfl) (by kernel_rfl) (by kernel_rfl)

noncomputable def bM2 (c r d s : Int) : Base := ⟨Tryd.prog, J0, false, tabA3, mtabL bA3 10 [told .ret (fun S => T49 S d s ((d - c + 1) * (s - r + 1)) d s)] 49, 200⟩
theorem bM2_ok (c r d s : Int) : BaseOk (bM2 c r d s) := ⟨progOk, tabA3_ok, mtabL_ok bA3_ok _ _ _⟩

/-- THE CONTRACT: AddrMeet answers true, whatever it is asked. -/
theorem addrMeet_pure (c r d s e f g h x y : Int) : Pure Tryd.prog J0 7 [vArea c r d s, vArea e f g h, vCell x y] (.bool true) := by
  have hc : (!true || !(meetB c r d s e f g h == meetB e f g h c r d s) || !(mz (meetB c r d s e f g h) (maxG c e) == mz (meetB e f g h c r d s) (maxG e c) && (mz (meetB c r d s e f g h) (maxG r f) == mz (meetB e f g h c r d s) (maxG f r) && true) && (mz (meetB c r d s e f g h) (minG d g) == mz (meetB e f g h c r d s) (minG g d) && (mz (meetB c r d s e f g h) (minG s h) == mz (meetB e f g h c r d s) (minG h s) && true) && true)) || !((meetB c r d s e f g h && inB (mz (meetB c r d s e f g h) (maxG c e)) (mz (meetB c r d s e f g h) (maxG r f)) (mz (meetB c r d s e f g h) (minG d g)) (mz (meetB c r d s e f g h) (minG s h)) x y) == (inB c r d s x y && inB e f g h x y))) = false := by
    rw [meet_in, ← meetB_comm, maxG_comm e c, maxG_comm f r, minG_comm g d, minG_comm h s]
    simp
  cases ha : areaB c r d s
  · have e1 : ((0 : Int) == sizeI c r d s) = true := by simp [sizeI, ha]
    rw [← e1]
    exact pure_of (bM2_ok c r d s) 10 [] [false, false, true] (l := [(!areaB c r d s) = true, false = false, _]) (by kernel_rfl) ⟨by rw [ha]; rfl, rfl, hc, trivial⟩
  · have e1 : ((d - c + 1) * (s - r + 1) == sizeI c r d s) = true := by simp [sizeI, ha]
    rw [← e1]
    exact pure_of (bM2_ok c r d s) 10 [] [false, false, false] (l := [LoopTo (bA3.cx 10) c49 (S49 c r d s e f g h x y) .ret (T49 (S49 c r d s e f g h x y) d s ((d - c + 1) * (s - r + 1)) d s), (!areaB c r d s) = false, false = false, _]) (by kernel_rfl) ⟨loop49_start c r d s e f g h x y ha, by rw [ha]; rfl, rfl, hc, trivial⟩

end Go.Proofs.YthclpocignpfhaaDoor
