/-
  Layer 10 (addr): the reference's Cells: two loops that append. (Types 24, 31: of seat r1.)
-/
import Derived.Test.YthclpocignpfhaaDoorAdY
namespace Go.Proofs.YthclpocignpfhaaDoor
open Go Go.RowKit Ev AdS

/-- The cells of a row, of an area, flat: n of them from x on, in row y; h rows. -/
def rowL : Nat → Int → Int → List Int
  | 0, _, _ => []
  | n + 1, x, y => x :: y :: rowL n (x + 1) y
def gridL : Nat → Nat → Int → Int → List Int
  | 0, _, _, _ => []
  | h + 1, w, x, y => rowL w x y ++ gridL h w x (y + 1)

theorem rowL_length : ∀ (n : Nat) (x y : Int), (rowL n x y).length = n * 2
  | 0, _, _ => rfl
  | n + 1, x, y => by
    unfold rowL
    simp only [List.length_cons, rowL_length n]
    omega
theorem gridL_length : ∀ (h w : Nat) (x y : Int), (gridL h w x y).length = h * w * 2
  | 0, w, _, _ => by simp [gridL]
  | h + 1, w, x, y => by
    unfold gridL
    rw [List.length_append, rowL_length, gridL_length h, Nat.add_mul, Nat.one_mul, Nat.add_mul]
    omega

noncomputable abbrev X2 : Cx := bY2.cx 10
noncomputable def c28o : Code := loopAt Tryd.prog 28 0
noncomputable def c28i : Code := loopAt Tryd.prog 28 1
noncomputable def S28 (a b c d : Int) : St := startAt X2 200 28 [vArea a b c d] [] 6 [false]

abbrev OV (j k n : Nat) : Value := .slice (some ⟨j, 0, some k⟩) n 0

def withDs (s : St) (ds : List Bool) : St := match s with
  | ⟨tm, hp, n, _, _, _, rd, mq, b⟩ => ⟨tm, hp, n, ds, [], 0, rd, mq, b⟩
/-- Up to the inner loop. -/
noncomputable def inn (s : St) : St := match evCode X2 [fun s => some (.exit 1000000, s)] 200 c28o (withDs s [true]) with
  | some (_, s1) => s1.core
  | none => s

/-- the inner loop's states, the outer's -/
def T28i (a b c d x y : Int) (ns : List Int) (N : Nat) : St := ⟨only 38 [(1, .pointer (some ⟨6, 0, none⟩)), (2, .slice none 0 0), (4, OV 36 37 N), (5, vi y), (6, vi x)],
  [(36, .row 24 2 (.ints .i64 ns) 37), (6, .cells [vi a, vi b, vi c, vi d] 31)], 64, [], [], 0, none, [], 6⟩
def T28o (a b c d y : Int) (ns : List Int) (N : Nat) : St := ⟨only 38 [(1, .pointer (some ⟨6, 0, none⟩)), (2, .slice none 0 0), (4, OV 36 37 N), (5, vi y)],
  [(36, .row 24 2 (.ints .i64 ns) 37), (6, .cells [vi a, vi b, vi c, vi d] 31)], 64, [], [], 0, none, [], 6⟩

section
variable (a b c d x y : Int) (ns : List Int) (N : Nat)

set_option maxRecDepth 100000 in
theorem i_next (h0 : decide (x ≤ c) = true) (h1 : N * 2 = ns.length ∧ (N + 1) * 16 ≤ 140737488355328 ∧ N + 1 ≤ 9223372036854775807) :
    Step X2 c28i (T28i a b c d x y ns N) .normal (T28i a b c d (IntKind.i64.wrap (x + 1)) y (ns ++ [x, y]) (N + 1)) :=
  step_of (Base.cx_ok bY2_ok 10).1 progOk.mixed [] 200 [true] [(36, 74), (37, 75)] (l := [N * 2 = ns.length ∧ (N + 1) * 16 ≤ 140737488355328 ∧ N + 1 ≤ 9223372036854775807, decide (x ≤ c) = true]) (by kernel_rfl) ⟨h1, h0, trivial⟩ (by kernel_rfl) (by kernel_rfl)
set_option maxRecDepth 100000 in
theorem i_out (h0 : decide (x ≤ c) = false) : Step X2 c28i (T28i a b c d x y ns N) (.exit 2) (T28i a b c d x y ns N) :=
  step_of (Base.cx_ok bY2_ok 10).1 progOk.mixed [] 200 [false] [] (l := [decide (x ≤ c) = false]) (by kernel_rfl) ⟨h0, trivial⟩ (by kernel_rfl) (by kernel_rfl)
set_option maxRecDepth 100000 in
theorem i_first (h0 : decide (a ≤ c) = true) : Step X2 c28i (inn (S28 a b c d)) .normal (T28i a b c d (IntKind.i64.wrap (a + 1)) b [a, b] 1) :=
  step_of (Base.cx_ok bY2_ok 10).1 progOk.mixed [] 200 [true] [] (l := [16 ≤ 140737488355328 ∧ 1 ≤ 9223372036854775807, decide (a ≤ c) = true]) (by kernel_rfl) ⟨by omega, h0, trivial⟩ (by kernel_rfl) (by kernel_rfl)
end

structure I28 where
  x : Int
  ns : List Int
  N : Nat

def good28 (a c y : Int) (ns0 : List Int) (i : I28) : Prop := a ≤ i.x ∧ i.x ≤ c + 1 ∧ i.N * 2 = i.ns.length ∧ i.N + (c + 1 - i.x).toNat ≤ 1048576 ∧ i.ns ++ rowL (c + 1 - i.x).toNat i.x y = ns0

theorem i_loop_step {a b c d y : Int} (ha : 1 ≤ a) (hc : c ≤ 256) {ns0 : List Int} {N0 : Nat} {i : I28} (hi : good28 a c y ns0 i) (hN : i.N + (c + 1 - i.x).toNat = N0) :
    (∃ j : I28, (good28 a c y ns0 j ∧ j.N + (c + 1 - j.x).toNat = N0) ∧ (c + 1 - j.x).toNat < (c + 1 - i.x).toNat ∧ Step X2 c28i (T28i a b c d i.x y i.ns i.N) .normal (T28i a b c d j.x y j.ns j.N)) ∨
    Step X2 c28i (T28i a b c d i.x y i.ns i.N) (.exit 2) (T28i a b c d (c + 1) y ns0 N0) := by
  obtain ⟨x, ns, N⟩ := i
  obtain ⟨h1, h2, h3, h4, h5⟩ := hi
  simp only at h1 h2 h3 h4 h5 hN ⊢
  cases hx : decide (x ≤ c)
  · right
    have hx' := of_decide_eq_false hx
    obtain rfl : x = c + 1 := by omega
    have e : (c + 1 - (c + 1)).toNat = 0 := by omega
    rw [e] at h5 hN
    simp only [rowL, List.append_nil, Nat.add_zero] at h5 hN
    subst h5 hN
    exact i_out a b c d (c + 1) y ns N hx
  · left
    have hx' := of_decide_eq_true hx
    have hw : IntKind.i64.wrap (x + 1) = x + 1 := wrapS (by omega) (by omega)
    have e : (c + 1 - x).toNat = (c + 1 - (x + 1)).toNat + 1 := by omega
    have := i_next a b c d x y ns N hx ⟨h3, by omega, by omega⟩
    rw [hw] at this
    refine ⟨⟨x + 1, ns ++ [x, y], N + 1⟩, ⟨⟨by simp only; omega, by simp only; omega, by simp; omega, by simp only; omega, ?_⟩, by simp only; omega⟩, by simp only; omega, this⟩
    simp only
    rw [← h5, e]
    simp [rowL]

/-- A row's cells are appended. -/
theorem i_loop {a b c d y : Int} (ha : 1 ≤ a) (hac : a ≤ c) (hc : c ≤ 256) {ns : List Int} {N : Nat} (hN : N * 2 = ns.length) (hb : N + (c + 1 - a).toNat ≤ 1048576) :
    LoopTo X2 c28i (T28i a b c d a y ns N) (.exit 2) (T28i a b c d (c + 1) y (ns ++ rowL (c + 1 - a).toNat a y) (N + (c + 1 - a).toNat)) := by
  refine loop_of (fun i : I28 => T28i a b c d i.x y i.ns i.N) (fun i => (c + 1 - i.x).toNat) (fun i => good28 a c y (ns ++ rowL (c + 1 - a).toNat a y) i ∧ i.N + (c + 1 - i.x).toNat = N + (c + 1 - a).toNat) (by intro e; cases e) (fun i hi => i_loop_step ha hc hi.1 hi.2) ⟨a, ns, N⟩ ⟨⟨Int.le_refl _, by simp only; omega, hN, hb, rfl⟩, rfl⟩

/-- The first row's, from nil on. -/
theorem i_loop0 {a b c d : Int} (ha : 1 ≤ a) (hac : a ≤ c) (hc : c ≤ 256) :
    LoopTo X2 c28i (inn (S28 a b c d)) (.exit 2) (T28i a b c d (c + 1) b (rowL (c + 1 - a).toNat a b) (c + 1 - a).toNat) := by
  refine loop_of (fun i : Option I28 => match i with
      | none => inn (S28 a b c d)
      | some i => T28i a b c d i.x b i.ns i.N) (fun i => match i with
      | none => (c + 1 - a).toNat
      | some i => (c + 1 - i.x).toNat) (fun i => match i with
      | none => True
      | some i => good28 a c b (rowL (c + 1 - a).toNat a b) i ∧ i.N + (c + 1 - i.x).toNat = (c + 1 - a).toNat) (by intro e; cases e) (fun i hi => ?_) none trivial
  cases i with
  | none =>
    left
    have hw : IntKind.i64.wrap (a + 1) = a + 1 := wrapS (by omega) (by omega)
    have := i_first a b c d (decide_eq_true hac)
    rw [hw] at this
    have e : (c + 1 - a).toNat = (c + 1 - (a + 1)).toNat + 1 := by omega
    refine ⟨some ⟨a + 1, [a, b], 1⟩, ⟨⟨by simp only; omega, by simp only; omega, rfl, by simp only; omega, ?_⟩, by simp only; omega⟩, by simp only; omega, this⟩
    simp only
    rw [e]
    simp [rowL]
  | some i =>
    rcases i_loop_step (b := b) (d := d) ha hc hi.1 hi.2 with ⟨j, hj, hlt, hs⟩ | hs
    · exact .inl ⟨some j, hj, hlt, hs⟩
    · exact .inr hs

section
variable (a b c d x y : Int) (ns ms : List Int) (N K : Nat)

set_option maxRecDepth 100000 in
theorem o_next (h0 : decide (y ≤ d) = true) (hL : LoopTo X2 c28i (inn (T28o a b c d y ns N)) (.exit 2) (T28i a b c d x y ms K)) :
    Step X2 c28o (T28o a b c d y ns N) .normal (T28o a b c d (IntKind.i64.wrap (y + 1)) ms K) :=
  step_of (Base.cx_ok bY2_ok 10).1 progOk.mixed [told (.exit 2) (fun _ => T28i a b c d x y ms K)] 200 [true] [] (l := [LoopTo X2 c28i (inn (T28o a b c d y ns N)) (.exit 2) (T28i a b c d x y ms K), decide (y ≤ d) = true]) (by kernel_rfl) ⟨hL, h0, trivial⟩ (by kernel_rfl) (by kernel_rfl)
set_option maxRecDepth 100000 in
theorem o_out (h0 : decide (y ≤ d) = false) : Step X2 c28o (T28o a b c d y ns N) (.exit 0) (T28o a b c d y ns N) :=
  step_of (Base.cx_ok bY2_ok 10).1 progOk.mixed [] 200 [false] [] (l := [decide (y ≤ d) = false]) (by kernel_rfl) ⟨h0, trivial⟩ (by kernel_rfl) (by kernel_rfl)
set_option maxRecDepth 100000 in
theorem o_first (h0 : decide (b ≤ d) = true) (hL : LoopTo X2 c28i (inn (S28 a b c d)) (.exit 2) (T28i a b c d x b ms K)) :
    Step X2 c28o (S28 a b c d) .normal (T28o a b c d (IntKind.i64.wrap (b + 1)) ms K) :=
  step_of (Base.cx_ok bY2_ok 10).1 progOk.mixed [told (.exit 2) (fun _ => T28i a b c d x b ms K)] 200 [true] [] (l := [LoopTo X2 c28i (inn (S28 a b c d)) (.exit 2) (T28i a b c d x b ms K), decide (b ≤ d) = true]) (by kernel_rfl) ⟨hL, h0, trivial⟩ (by kernel_rfl) (by kernel_rfl)
set_option maxRecDepth 100000 in
theorem o_inner (hL : LoopTo X2 c28i (T28i a b c d a y ns N) (.exit 2) (T28i a b c d x y ms K)) : LoopTo X2 c28i (inn (T28o a b c d y ns N)) (.exit 2) (T28i a b c d x y ms K) :=
  loop_into' hL [] (by kernel_rfl) (by kernel_rfl) (by kernel_rfl)
end

end Go.Proofs.YthclpocignpfhaaDoor
