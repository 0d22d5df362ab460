/-
  Layer 10 (addr): the reference's Cells as a contract: a row that is the caller's own.
-/
import Derived.Test.YthclpocignpfhaaDoorAdG
namespace Go.Proofs.YthclpocignpfhaaDoor
open Go Go.RowKit Ev AdS

structure O28 where
  y : Int
  ns : List Int
  N : Nat

def goodO (a b c d : Int) (tot : List Int) (K : Nat) (i : O28) : Prop :=
  b ≤ i.y ∧ i.y ≤ d + 1 ∧ i.N * 2 = i.ns.length ∧ i.ns ++ gridL (d + 1 - i.y).toNat (c + 1 - a).toNat a i.y = tot ∧ i.N + (d + 1 - i.y).toNat * (c + 1 - a).toNat = K

theorem o_step {a b c d : Int} (ha : 1 ≤ a) (hac : a ≤ c) (hc : c ≤ 256) (hb : 1 ≤ b) (hd : d ≤ 4096) {tot : List Int} {K : Nat} (hK : K ≤ 1048576) {i : O28} (hi : goodO a b c d tot K i) :
    (∃ j : O28, goodO a b c d tot K j ∧ (d + 1 - j.y).toNat < (d + 1 - i.y).toNat ∧ Step X2 c28o (T28o a b c d i.y i.ns i.N) .normal (T28o a b c d j.y j.ns j.N)) ∨
    Step X2 c28o (T28o a b c d i.y i.ns i.N) (.exit 0) (T28o a b c d (d + 1) tot K) := by
  obtain ⟨y, ns, N⟩ := i
  obtain ⟨h1, h2, h3, h4, h5⟩ := hi
  simp only at h1 h2 h3 h4 h5 ⊢
  cases hy : decide (y ≤ d)
  · right
    have hy' := of_decide_eq_false hy
    obtain rfl : y = d + 1 := by omega
    have e : (d + 1 - (d + 1)).toNat = 0 := by omega
    rw [e] at h4 h5
    simp only [gridL, List.append_nil, Nat.zero_mul, Nat.add_zero] at h4 h5
    subst h4 h5
    exact o_out a b c d (d + 1) ns N hy
  · left
    have hy' := of_decide_eq_true hy
    have hw : IntKind.i64.wrap (y + 1) = y + 1 := wrapS (by omega) (by omega)
    have e : (d + 1 - y).toNat = (d + 1 - (y + 1)).toNat + 1 := by omega
    rw [e, Nat.add_mul, Nat.one_mul] at h5
    have hL := i_loop (b := b) (d := d) (y := y) ha hac hc h3 (by omega)
    have := o_next a b c d (c + 1) y ns _ N _ hy (o_inner a b c d (c + 1) y ns _ N _ hL)
    rw [hw] at this
    refine ⟨⟨y + 1, ns ++ rowL (c + 1 - a).toNat a y, N + (c + 1 - a).toNat⟩, ⟨by simp only; omega, by simp only; omega, ?_, ?_, by simp only; omega⟩, by simp only; omega, this⟩
    · simp only [List.length_append, rowL_length]
      omega
    · simp only
      rw [← h4, e]
      simp only [gridL, List.append_assoc]

/-- All rows. -/
theorem o_loop0 {a b c d : Int} (h : areaB a b c d = true) :
    LoopTo X2 c28o (S28 a b c d) (.exit 0) (T28o a b c d (d + 1) (gridL (d + 1 - b).toNat (c + 1 - a).toNat a b) ((d + 1 - b).toNat * (c + 1 - a).toNat)) := by
  have hv := areaB_iff.1 h
  have v1 := validB_iff.1 hv.1
  have v2 := validB_iff.1 hv.2.1
  have hK : (d + 1 - b).toNat * (c + 1 - a).toNat ≤ 1048576 := by
    have : (d + 1 - b).toNat * (c + 1 - a).toNat ≤ 4096 * 256 := Nat.mul_le_mul (by omega) (by omega)
    omega
  refine loop_of (fun i : Option O28 => match i with
      | none => S28 a b c d
      | some i => T28o a b c d i.y i.ns i.N) (fun i => match i with
      | none => (d + 1 - b).toNat
      | some i => (d + 1 - i.y).toNat) (fun i => match i with
      | none => True
      | some i => goodO a b c d (gridL (d + 1 - b).toNat (c + 1 - a).toNat a b) ((d + 1 - b).toNat * (c + 1 - a).toNat) i) (by intro e; cases e) (fun i hi => ?_) none trivial
  cases i with
  | none =>
    left
    have hw : IntKind.i64.wrap (b + 1) = b + 1 := wrapS (by omega) (by omega)
    have := o_first a b c d (c + 1) _ _ (decide_eq_true hv.2.2.2) (i_loop0 (b := b) (d := d) (by omega) hv.2.2.1 (by omega))
    rw [hw] at this
    have e : (d + 1 - b).toNat = (d + 1 - (b + 1)).toNat + 1 := by omega
    refine ⟨some ⟨b + 1, rowL (c + 1 - a).toNat a b, (c + 1 - a).toNat⟩, ⟨by simp only; omega, by simp only; omega, ?_, ?_, ?_⟩, by simp only; omega, this⟩
    · simp only [rowL_length]
    · simp only
      rw [e]
      rfl
    · simp only
      rw [e, Nat.add_mul, Nat.one_mul, Nat.add_comm]
  | some i =>
    rcases o_step (by omega) hv.2.2.1 (by omega) (by omega) (by omega) hK hi with ⟨j, hj, hlt, hs⟩ | hs
    · exact .inl ⟨some j, hj, hlt, hs⟩
    · exact .inr hs

/-- How many cells, and which. -/
def cellsN (a b c d : Int) : Nat := if areaB a b c d then (d + 1 - b).toNat * (c + 1 - a).toNat else 0
def cellsNs (a b c d : Int) : List Int := if areaB a b c d then gridL (d + 1 - b).toNat (c + 1 - a).toNat a b else []

def CellsRow (a b c d : Int) (w w' : World) (v : Value) : Prop :=
  (cellsN a b c d = 0 ∧ cellsNs a b c d = [] ∧ v = .slice none 0 0) ∨ ∃ g cap cur, v = .slice (some ⟨g, 0, none⟩) (cellsN a b c d) cap ∧ w.heap.size ≤ g ∧ w'.heap[g]? = some (.cells cur 24 (0, 0)) ∧ cap ≤ maxLen ∧ cur.size = cap * 2 ∧
    ((cellsNs a b c d).map (Value.int .i64)).length ≤ cap * 2 ∧ cur.toList.take ((cellsNs a b c d).map (Value.int .i64)).length = (cellsNs a b c d).map (Value.int .i64)

theorem glob_sim {w : World} : ∀ ρ' : Num, Agree 6 (fun i => if i < 6 then some i else none) ρ' → Sim Tryd.prog w.heap.size (fun _ => False) ρ' [] w ∧ ([.agg ⟨[vi 0]⟩] : List Value) = rvL ρ' [.agg ⟨[vi 0]⟩] := by
  intro ρ' ha
  refine ⟨⟨fun g hg => ?_, fun i o h => by simp [Heap.get] at h, fun i j o o' h => by simp [Heap.get] at h⟩, by simp [rvL, rv, rvA]⟩
  have : g < 6 := by
    have e : Tryd.prog.globals.size = 6 := by kernel_rfl
    omega
  rw [ha g this]
  simp [this]

set_option maxRecDepth 100000 in
theorem cells_calls (a b c d : Int) (w : World) (hI : J0.I w) : Calls Tryd.prog 28 ⟨[vArea a b c d]⟩ w fun e w' => ∃ v, e = .returned v ∧ Below w.heap.size w w' ∧ CellsRow a b c d w w' v := by
  have hp : Par Tryd.prog w.heap.size (fun _ => False) := ⟨hI.1, fun _ _ h => h⟩
  obtain ⟨hX, _⟩ := Base.cx_ok bY2_ok 10
  have hS : ∀ ρ' : Num, Agree 6 (fun i => if i < 6 then some i else none) ρ' → Sim Tryd.prog w.heap.size (fun _ => False) ρ' [] w ∧ ([vArea a b c d] : List Value) = rvL ρ' [vArea a b c d] := fun ρ' ha => ⟨(glob_sim ρ' ha).1, by simp [rvL, rv, rvA]⟩
  cases h : areaB a b c d
  · have he : evFn X2 [] 200 28 [vArea a b c d] [] 6 [true] = some ⟨.slice none 0 0, [], 13, [(!areaB a b c d) = true], []⟩ := by kernel_rfl
    refine (evFn_sound hX progOk.mixed he ⟨by rw [h]; rfl, trivial⟩ hp (Nat.le_refl _) hI hS).2.mono fun e w' ⟨ρ1, v, _, h2, h3, h4⟩ => ⟨v, h2, h3.below, .inl ⟨by unfold cellsN; rw [h]; rfl, by unfold cellsNs; rw [h]; rfl, ?_⟩⟩
    rw [(h4 ρ1 (Agree.refl _ _)).1]
    simp [rv]
  · have hL := o_loop0 h
    have he : evFn X2 [told (.exit 0) (fun _ => T28o a b c d (d + 1) (gridL (d + 1 - b).toNat (c + 1 - a).toNat a b) ((d + 1 - b).toNat * (c + 1 - a).toNat))] 200 28 [vArea a b c d] [] 6 [false] =
        some ⟨OV 36 37 ((d + 1 - b).toNat * (c + 1 - a).toNat), [(36, .row 24 2 (.ints .i64 (gridL (d + 1 - b).toNat (c + 1 - a).toNat a b)) 37), (6, .cells [vi a, vi b, vi c, vi d] 31)], 66,
          [LoopTo X2 c28o (S28 a b c d) (.exit 0) (T28o a b c d (d + 1) (gridL (d + 1 - b).toNat (c + 1 - a).toNat a b) ((d + 1 - b).toNat * (c + 1 - a).toNat)), (!areaB a b c d) = false], []⟩ := by kernel_rfl
    refine (evFn_sound hX progOk.mixed he ⟨hL, by rw [h]; rfl, trivial⟩ hp (Nat.le_refl _) hI hS).2.mono fun e w' ⟨ρ1, v, _, h2, h3, h4⟩ => ⟨v, h2, h3.below, ?_⟩
    obtain ⟨hv, hsim⟩ := h4 ρ1 (Agree.refl _ _)
    have eN : cellsN a b c d = (d + 1 - b).toNat * (c + 1 - a).toNat := by unfold cellsN; rw [if_pos h]
    have eNs : cellsNs a b c d = gridL (d + 1 - b).toNat (c + 1 - a).toNat a b := by unfold cellsNs; rw [if_pos h]
    have ho := hsim.obj 36 (.row 24 2 (.ints .i64 (gridL (d + 1 - b).toNat (c + 1 - a).toNat a b)) 37) rfl
    unfold CellsRow
    rw [eN, eNs]
    rcases ho with ⟨g1, g2⟩ | ⟨g, cap, cur, g1, g2, g3, g4, g5, g6, g7, g8⟩
    · -- there is no area without a cell
      exfalso
      have := congrArg List.length g2
      simp only [Row.list, List.length_map, gridL_length, List.length_nil] at this
      have hv' := areaB_iff.1 h
      have p1 : 1 ≤ (d + 1 - b).toNat := by omega
      have p2 : 1 ≤ (c + 1 - a).toNat := by omega
      have := Nat.mul_le_mul p1 p2
      omega
    · refine .inr ⟨g, cap, cur, ?_, g4, g3, g5, g6, g7, ?_⟩
      · rw [hv]
        simp [rv, rSl, g1, g2]
      · have e : rvL ρ1 ((gridL (d + 1 - b).toNat (c + 1 - a).toNat a b).map (Value.int .i64)) = (gridL (d + 1 - b).toNat (c + 1 - a).toNat a b).map (Value.int .i64) := rvL_pure _ _ (by rw [pureL_eq]; simp [pureV])
        simp only [Row.list] at g8
        rw [g8, e]

end Go.Proofs.YthclpocignpfhaaDoor
