/-
  Layer 10 (addr), AddrAreas: contracts over memory, and the statement's own function.
-/
import Derived.Test.YthclpocignpfhaaDoorAdGe
namespace Go.Proofs.YthclpocignpfhaaDoor
open Go Go.RowKit Ev AdS

/-! 'gone', as a call. -/

/-- The list lies there, whoever's it is. -/
def ListThere (a b c d : Int) (w : World) (v : Value) : Prop :=
  (areaB a b c d = false ∧ v = .slice none 0 0) ∨ ∃ g cap cur t fr, v = .slice (some ⟨g, 0, none⟩) (cellsN a b c d) cap ∧ w.heap[g]? = some (.cells cur t fr) ∧ ∀ i, i < (cellsNs a b c d).length → cur[i]? = some (.int .i64 ((cellsNs a b c d).getD i 0))

theorem glob6 {ρ' : Num} {n : Nat} {f : Num} (hn : 6 ≤ n) (hf : ∀ i, i < 6 → f i = some i) (ha : Agree n f ρ') : ∀ g, g < Tryd.prog.globals.size → ρ' g = some g := by
  intro g hg
  have e : Tryd.prog.globals.size = 6 := by kernel_rfl
  rw [ha g (by omega), hf g (by omega)]

set_option maxRecDepth 100000 in
theorem gone_calls (a b c d leave : Int) (w : World) (hI : J0.I w) (v : Value) (hv : ListThere a b c d w v) :
    Calls Tryd.prog 27 ⟨[vArea a b c d, v, vi leave]⟩ w fun e w' => e = .returned (.bool true) ∧ Below w.heap.size w w' := by
  have hp : Par Tryd.prog w.heap.size (fun _ => False) := ⟨hI.1, fun _ _ h => h⟩
  rcases hv with ⟨hno, rfl⟩ | ⟨g, cap, cur, t, fr, rfl, hcell, hall⟩
  · obtain ⟨hX, _⟩ := Base.cx_ok bY2_ok 10
    have hS : ∀ ρ' : Num, Agree 6 (fun i => if i < 6 then some i else none) ρ' → Sim Tryd.prog w.heap.size (fun _ => False) ρ' [] w ∧ ([vArea a b c d, .slice none 0 0, vi leave] : List Value) = rvL ρ' [vArea a b c d, .slice none 0 0, vi leave] := fun ρ' ha => ⟨(glob_sim ρ' ha).1, by simp [rvL, rv, rvA]⟩
    have he : evFn X2 [] 200 27 [vArea a b c d, .slice none 0 0, vi leave] [] 6 [false, true, false, true] = some ⟨.bool ((0 : Int) == ((0 : Nat) : Int)), [], 42, [(!areaB a b c d) = true, condK 0 leave 0 = false, (!areaB a b c d) = true, false = false], []⟩ := by kernel_rfl
    have hk : condK 0 leave 0 = false := condK_end (N := 0) (show ¬ (1 ≤ leave ∧ leave ≤ (0 : Int)) by omega)
    refine (evFn_sound hX progOk.mixed he ⟨by rw [hno]; rfl, hk, by rw [hno]; rfl, rfl, trivial⟩ hp (Nat.le_refl _) hI hS).2.mono fun e w' ⟨ρ1, u, _, h2, h3, h4⟩ => ⟨?_, h3.below⟩
    have := (h4 ρ1 (Agree.refl _ _)).1
    rw [h2, this]
    simp [rv]
  · have hS : ∀ ρ' : Num, Agree 7 (fun i => if i < 6 then some i else some g) ρ' → Sim Tryd.prog w.heap.size (fun _ => False) ρ' (HG (cellsNs a b c d)) w ∧ ([vArea a b c d, .slice (some ⟨g, 0, none⟩) (cellsN a b c d) cap, vi leave] : List Value) = rvL ρ' [vArea a b c d, wArg (cellsN a b c d) cap, vi leave] := by
      intro ρ' ha
      have h6 : ρ' 6 = some g := by rw [ha 6 (by omega)]; rfl
      refine ⟨⟨glob6 (n := 7) (by omega) (fun i hi => by simp [hi]) ha, fun i o h => ?_, fun i j o o' h hr => ?_⟩, by simp [rvL, rv, rvA, rSl, rAddr, h6]⟩
      · rw [HG, Heap.get_cons] at h
        split at h
        · rename_i e
          subst e
          cases h
          rw [h6]
          exact .inr ⟨g, cur, t, fr, rfl, hcell, hall⟩
        · simp [Heap.get] at h
      · rw [HG, Heap.get_cons] at h
        split at h
        · cases h; cases hr
        · simp [Heap.get] at h
    cases ha : areaB a b c d
    · have hN : cellsN a b c d = 0 := by unfold cellsN; rw [ha]; rfl
      obtain ⟨hX, _⟩ := Base.cx_ok bY2_ok 10
      have he : evFn X2 [] 200 27 [vArea a b c d, wArg (cellsN a b c d) cap, vi leave] (HG (cellsNs a b c d)) 7 [false, true, false, true] = some ⟨.bool ((0 : Int) == (cellsN a b c d : Int)), HG (cellsNs a b c d), 43, [(!areaB a b c d) = true, condK 0 leave (cellsN a b c d) = false, (!areaB a b c d) = true, false = false], []⟩ := by kernel_rfl
      have hk : condK 0 leave (cellsN a b c d) = false := by rw [hN]; exact condK_end (N := 0) (show ¬ (1 ≤ leave ∧ leave ≤ (0 : Int)) by omega)
      refine (evFn_sound hX progOk.mixed he ⟨by rw [ha]; rfl, hk, by rw [ha]; rfl, rfl, trivial⟩ hp (Nat.le_refl _) hI hS).2.mono fun e w' ⟨ρ1, u, _, h2, h3, h4⟩ => ⟨?_, h3.below⟩
      have := (h4 ρ1 (Agree.refl _ _)).1
      rw [h2, this, hN]
      simp [rv]
    · have hin : (!areaB a b c d) = false := by rw [ha]; rfl
      by_cases hl : 1 ≤ leave ∧ leave ≤ (cellsN a b c d : Int)
      · obtain ⟨hX, _⟩ := Base.cx_ok (bGG_ok true (a + (leave - 1) % (c - a + 1)) (b + (leave - 1) / (c - a + 1)) leave c d (cellsN a b c d)) 10
        have he := gone_ev1 a b c d leave cap (a + (leave - 1) % (c - a + 1)) (b + (leave - 1) / (c - a + 1)) leave
        refine (evFn_sound hX progOk.mixed he ⟨loopB_into1 a b c d leave cap leave (loopB leave cap leave ha), hin, condK_left hl.1 hl.2, loopA_into a b c d leave cap (loopA_left leave cap ha hl.1 hl.2), hin, rfl, trivial⟩ hp (Nat.le_refl _) hI hS).2.mono fun e w' ⟨ρ1, u, _, h2, h3, h4⟩ => ⟨?_, h3.below⟩
        have := (h4 ρ1 (Agree.refl _ _)).1
        rw [h2, this]
        simp [rv]
      · obtain ⟨hX, _⟩ := Base.cx_ok (bGG_ok false c d (cellsN a b c d) c d (cellsN a b c d)) 10
        have he := gone_ev0 a b c d leave cap c d (cellsN a b c d)
        refine (evFn_sound hX progOk.mixed he ⟨loopB_into0 a b c d leave cap _ (loopB leave cap _ ha), hin, condK_end hl, loopA_into a b c d leave cap (loopA_end leave cap ha hl), hin, rfl, trivial⟩ hp (Nat.le_refl _) hI hS).2.mono fun e w' ⟨ρ1, u, _, h2, h3, h4⟩ => ⟨?_, h3.below⟩
        have := (h4 ρ1 (Agree.refl _ _)).1
        rw [h2, this]
        simp [rv]

/-! Contracts over memory. -/

def mtabAdd (f : FuncId) (spec : List Value → Heap → Nat → List Bool → Option CR) (t : MTab) : MTab := fun g args H n ds =>
  match Nat.beq g f with
  | true => spec args H n ds
  | false => t g args H n ds

def SpecOk (P : Program) (J : Inv P) (f : FuncId) (spec : List Value → Heap → Nat → List Bool → Option CR) : Prop :=
  ∀ args H n ds r, spec args H n ds = some r → allP r.obs → n ≤ r.n ∧ Enters P f ∧ ∀ (B : Nat) (M : Nat → Prop) (ρ : Num) (w : World) (vs : List Value), Par P B M → B ≤ w.heap.size → J.I w →
    (∀ ρ', Agree n ρ ρ' → Sim P B M ρ' H w ∧ vs = rvL ρ' args) →
    Calls P f ⟨vs⟩ w fun e w' => ∃ ρ1 v, Agree n ρ ρ1 ∧ e = .returned v ∧ Keeps B M w w' ∧ ∀ ρ', Agree r.n ρ1 ρ' → v = rv ρ' r.v ∧ Sim P B M ρ' r.h w'

theorem mtabAdd_ok {P : Program} {J : Inv P} {f : FuncId} {spec : List Value → Heap → Nat → List Bool → Option CR} {t : MTab} (h : SpecOk P J f spec) (ht : ClOk P J t) : ClOk P J (mtabAdd f spec t) := by
  intro g args H n ds r hs hl
  unfold mtabAdd at hs
  split at hs
  · rename_i hg
    have := Nat.eq_of_beq_eq_true hg
    subst this
    exact h args H n ds r hs hl
  · exact ht g args H n ds r hs hl

/-- A new block ahead of what is known. -/
theorem sim_front {P : Program} {B : Nat} {M : Nat → Prop} {ρ : Num} {H : Heap} {w w' : World} (h : Sim P B M ρ H w) (hb : Below w.heap.size w w') {n : Nat} {o : AObj} (ho : ORep B M ρ w' (ρ n) o) (hup : ∀ g, ρ n = some g → w.heap.size ≤ g) :
    Sim P B M ρ ((n, o) :: H) w' := by
  have hold := h.below hb
  have low : ∀ k ok, H.get k = some ok → ∀ g, ρ k = some g → g < w.heap.size := fun k ok hk g hg => by
    have := h.obj k ok hk
    rw [hg] at this
    exact this.lt
  refine ⟨hold.glob, fun i o' hi => ?_, fun i j oi oj hi hr hj hij hne => ?_⟩
  · rw [Heap.get_cons] at hi
    split at hi
    · rename_i e; subst e; cases hi; exact ho
    · exact hold.obj i o' hi
  · rw [Heap.get_cons] at hi hj
    split at hi <;> split at hj
    · rename_i e1 e2; exact absurd (e1.symm.trans e2) hij
    · rename_i e1 e2; subst e1
      intro e
      cases hq : ρ n with
      | none => exact hne hq
      | some g =>
        have h1 := hup g hq
        have h2 := low j oj hj g (by rw [← e]; exact hq)
        omega
    · rename_i e1 e2; subst e2
      intro e
      cases hq : ρ i with
      | none => exact hne hq
      | some g =>
        have h1 := hup g (by rw [← e]; exact hq)
        have h2 := low i oi hi g hq
        omega
    · exact hold.inj i j oi oj hi hr hj hij hne

def specCells (args : List Value) (H : Heap) (n : Nat) (ds : List Bool) : Option CR :=
  match args with
  | [.agg ⟨[.int .i64 a, .int .i64 b, .int .i64 c, .int .i64 d]⟩] => some ⟨OV n (n + 1) (cellsN a b c d), (n, .row 24 2 (.ints .i64 (cellsNs a b c d)) (n + 1)) :: H, n + 2, [], ds⟩
  | _ => none

theorem specCells_ok : SpecOk Tryd.prog J0 28 specCells := by
  intro args H n ds r h _
  unfold specCells at h
  split at h
  case h_2 => cases h
  rename_i a b c d
  cases h
  have hent : Enters Tryd.prog 28 := by
    have he : ∃ r, evFn X2 [] 200 28 [vArea a b c d] [] 6 [true] = some r := ⟨⟨.slice none 0 0, [], 13, [(!areaB a b c d) = true], []⟩, by kernel_rfl⟩
    obtain ⟨r, he⟩ := he
    exact evFn_enters (Base.cx_ok bY2_ok 10).2 he
  refine ⟨Nat.le_add_right _ _, hent, fun B M ρ w vs hp hB hI hS => ?_⟩
  obtain ⟨hS0, hvs⟩ := hS ρ (Agree.refl _ _)
  have hvs' : vs = [vArea a b c d] := by rw [hvs]; simp [rvL, rv, rvA]
  subst hvs'
  refine (cells_calls a b c d w hI).mono fun e w' ⟨v, he, hb, hrow⟩ => ?_
  have hglo : ∀ (ρ' : Num), Agree n ρ ρ' → Sim Tryd.prog B M ρ' H w := fun ρ' ha => (hS ρ' ha).1
  rcases hrow with ⟨h1, h2, h3⟩ | ⟨g, cap, cur, h1, h2, h3, h4, h5, h6, h7⟩
  · refine ⟨fun i => if i = n then none else ρ i, v, fun i hi => if_neg (by omega), he, Keeps.of_below hb hB, fun ρ' ha => ?_⟩
    have ha : Agree (n + 2) (fun i => if i = n then none else ρ i) ρ' := ha
    have hn : ρ' n = none := by rw [ha n (by omega)]; simp
    have hag : Agree n ρ ρ' := fun i hi => by rw [ha i (by omega)]; exact if_neg (by omega)
    refine ⟨by rw [h3]; simp [rv, rSl, hn, h1], sim_front (hglo ρ' hag) hb (.inl ⟨hn, by rw [h2]; rfl⟩) (fun g hg => by rw [hn] at hg; cases hg)⟩
  · refine ⟨fun i => if i = n then some g else if i = n + 1 then some cap else ρ i, v, fun i hi => by show (if i = n then _ else if i = n + 1 then _ else ρ i) = _; rw [if_neg (by omega), if_neg (by omega)], he, Keeps.of_below hb hB, fun ρ' ha => ?_⟩
    have ha : Agree (n + 2) (fun i => if i = n then some g else if i = n + 1 then some cap else ρ i) ρ' := ha
    have hn : ρ' n = some g := by rw [ha n (by omega)]; simp
    have hk : ρ' (n + 1) = some cap := by rw [ha (n + 1) (by omega)]; simp
    have hag : Agree n ρ ρ' := fun i hi => by rw [ha i (by omega)]; show (if i = n then _ else if i = n + 1 then _ else ρ i) = _; rw [if_neg (by omega), if_neg (by omega)]
    have e : rvL ρ' ((cellsNs a b c d).map (Value.int .i64)) = (cellsNs a b c d).map (Value.int .i64) := rvL_pure _ _ (by rw [pureL_eq]; simp [pureV])
    refine ⟨by rw [h1]; simp [rv, rSl, hn, hk], sim_front (hglo ρ' hag) hb (.inr ⟨g, cap, cur, hn, hk, h3, by omega, h4, h5, h6, ?_⟩) (fun g' hg => by rw [hn] at hg; cases hg; exact h2)⟩
    show cur.toList.take ((cellsNs a b c d).map (Value.int .i64)).length = rvL ρ' ((cellsNs a b c d).map (Value.int .i64))
    rw [e]
    exact h7

def specGone (args : List Value) (H : Heap) (n : Nat) (ds : List Bool) : Option CR :=
  match args with
  | [.agg ⟨[.int .i64 a, .int .i64 b, .int .i64 c, .int .i64 d]⟩, .slice (some ⟨j, 0, some k⟩) N 0, .int .i64 _] => match H.get j with
    | some (.row _ _ (.ints .i64 ns) k') => match Nat.beq k k' with
      | true => some ⟨.bool true, H, n, [N = cellsN a b c d, ns = cellsNs a b c d], ds⟩
      | false => none
    | _ => none
  | _ => none

theorem specGone_ok : SpecOk Tryd.prog J0 27 specGone := by
  intro args H n ds r h hl
  unfold specGone at h
  split at h
  case h_2 => cases h
  rename_i a b c d j k N leave
  split at h
  case h_2 => cases h
  rename_i e sz ns k' hget
  split at h
  case h_2 => cases h
  rename_i hkk
  have := Nat.eq_of_beq_eq_true hkk
  subst this
  cases h
  obtain ⟨h1, h2, _⟩ := hl
  subst h1 h2
  have hent : Enters Tryd.prog 27 := by
    have he : evFn X2 [] 200 27 [vArea a b c d, .slice none 0 0, vi leave] [] 6 [false, true, false, true] = some ⟨.bool ((0 : Int) == ((0 : Nat) : Int)), [], 42, [(!areaB a b c d) = true, condK 0 leave 0 = false, (!areaB a b c d) = true, false = false], []⟩ := by kernel_rfl
    exact evFn_enters (Base.cx_ok bY2_ok 10).2 he
  refine ⟨Nat.le_refl _, hent, fun B M ρ w vs hp hB hI hS => ?_⟩
  obtain ⟨hS0, hvs⟩ := hS ρ (Agree.refl _ _)
  have hobj := hS0.obj j _ hget
  have fin : ∀ v, ListThere a b c d w v → vs = [vArea a b c d, v, vi leave] → Calls Tryd.prog 27 ⟨vs⟩ w fun e w' => ∃ ρ1 u, Agree n ρ ρ1 ∧ e = .returned u ∧ Keeps B M w w' ∧ ∀ ρ', Agree n ρ1 ρ' → u = rv ρ' (.bool true) ∧ Sim Tryd.prog B M ρ' H w' := by
    intro v hv hvs
    subst hvs
    refine (gone_calls a b c d leave w hI v hv).mono fun e w' ⟨he, hb⟩ => ⟨ρ, .bool true, Agree.refl _ _, he, Keeps.of_below hb hB, fun ρ' ha => ⟨by simp [rv], (hS ρ' ha).1.below hb⟩⟩
  rcases hobj with ⟨g1, g2⟩ | ⟨g, cap, cur, g1, g2, g3, g4, g5, g6, g7, g8⟩
  · refine fin (.slice none 0 0) (.inl ⟨?_, rfl⟩) ?_
    · cases ha : areaB a b c d
      · rfl
      · exfalso
        have hc := cells_count ha
        have hv := areaB_iff.1 ha
        have g2 : (cellsNs a b c d).map (Value.int .i64) = [] := g2
        have hlen := congrArg List.length g2
        rw [List.length_map, hc.2] at hlen
        simp only [List.length_nil] at hlen
        have : (0 : Int) < (d - b + 1) * (c - a + 1) := Int.mul_pos (by omega) (by omega)
        omega
    · have hN : cellsN a b c d = 0 := by
        have g2 : (cellsNs a b c d).map (Value.int .i64) = [] := g2
        have hlen := congrArg List.length g2
        rw [List.length_map] at hlen
        simp only [List.length_nil] at hlen
        cases ha : areaB a b c d
        · unfold cellsN; rw [ha]; rfl
        · have hc := cells_count ha
          omega
      rw [hvs]
      simp [rvL, rv, rvA, rSl, g1, hN]
  · refine fin (.slice (some ⟨g, 0, none⟩) (cellsN a b c d) cap) (.inr ⟨g, cap, cur, e, (0, 0), rfl, g3, fun i hi => ?_⟩) ?_
    · have g8 : cur.toList.take ((cellsNs a b c d).map (Value.int .i64)).length = rvL ρ ((cellsNs a b c d).map (Value.int .i64)) := g8
      have e1 : rvL ρ ((cellsNs a b c d).map (Value.int .i64)) = (cellsNs a b c d).map (Value.int .i64) := rvL_pure _ _ (by rw [pureL_eq]; simp [pureV])
      rw [e1] at g8
      have h3 : (cur.toList.take ((cellsNs a b c d).map (Value.int .i64)).length)[i]? = some (.int .i64 ((cellsNs a b c d).getD i 0)) := by
        rw [g8, List.getElem?_map]
        simp [List.getD, hi]
      rw [List.getElem?_take, if_pos (by simpa using hi)] at h3
      simpa using h3
    · rw [hvs]
      simp [rvL, rv, rvA, rSl, g1, g2]

noncomputable def bAr : Base := ⟨Tryd.prog, J0, false, tabY2, mtabAdd 27 specGone (mtabAdd 28 specCells mtab0), 200⟩
theorem bAr_ok : BaseOk bAr := ⟨progOk, tabY2_ok, mtabAdd_ok specGone_ok (mtabAdd_ok specCells_ok (mtab0_ok _ _))⟩

end Go.Proofs.YthclpocignpfhaaDoor
