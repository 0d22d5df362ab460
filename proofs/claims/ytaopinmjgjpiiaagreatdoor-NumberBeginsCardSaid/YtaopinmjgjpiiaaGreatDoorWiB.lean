/-
  wide: a row of words without the noughts at its end, as a contract: the same row, a shorter slice.
-/
import Derived.Test.YtaopinmjgjpiiaaGreatDoorWiA
namespace Go.Proofs.YtaopinmjgjpiiaaGreatDoor
open Go Go.RowKit Ev Wd

abbrev intT : TypeId := 159
noncomputable def cMade : Code := loopAt Tryz.prog 191 0
/-- A slice at a place, with so much room. -/
abbrev slO (off n c : Nat) : Value := .slice (some ⟨11, off, none⟩) n c
def TMade (xs : List Int) (neg : Bool) (off m c : Nat) : St :=
  ⟨only 30 [(0, .bool neg), (1, slO off m c), (4, .pointer (some ⟨12, 0, none⟩))], [(12, .cells [.bool false, .slice none 0 0] intT), (11, .ints .u64 xs)], 13, [], [], 0, none, [], 12⟩

/-- Is the last word 0? -/
def lastZ (xs : List Int) (off m : Nat) : Bool := match decide ((m : Int) > 0) with
  | true => xs.getD (addO off (mulO (IntKind.i64.wrap ((m : Int) - 1)).toNat 1)) 0 == 0
  | false => false

section
variable (xs : List Int) (neg : Bool) (off m c : Nat)

set_option maxRecDepth 100000 in
theorem made_next (h0 : lastZ xs off m = true) (h1 : decide ((m : Int) > 0) = true → addO off (mulO (IntKind.i64.wrap ((m : Int) - 1)).toNat 1) < xs.length) (h2 : decide ((m : Int) > 0) = true → (0 ≤ IntKind.i64.wrap ((m : Int) - 1) ∧ IntKind.i64.wrap ((m : Int) - 1) < m) ∧ m ≤ xs.length)
    (h3 : (0 : Int) ≤ 0 ∧ 0 ≤ IntKind.i64.wrap ((m : Int) - 1) ∧ IntKind.i64.wrap ((m : Int) - 1) ≤ c) :
    Step XW0 cMade (TMade xs neg off m c) .normal (TMade xs neg off (IntKind.i64.wrap ((m : Int) - 1)).toNat c) :=
  step_of (Base.cx_ok bW0_ok 10).1 progOk.mixed [] 200 [true] [] (l := [(0 : Int) ≤ 0 ∧ 0 ≤ IntKind.i64.wrap ((m : Int) - 1) ∧ IntKind.i64.wrap ((m : Int) - 1) ≤ c, lastZ xs off m = true,
    decide ((m : Int) > 0) = true → addO off (mulO (IntKind.i64.wrap ((m : Int) - 1)).toNat 1) < xs.length, decide ((m : Int) > 0) = true → (0 ≤ IntKind.i64.wrap ((m : Int) - 1) ∧ IntKind.i64.wrap ((m : Int) - 1) < m) ∧ m ≤ xs.length]) (by kernel_rfl) ⟨h3, h0, h1, h2, trivial⟩ (by kernel_rfl) (by kernel_rfl)

set_option maxRecDepth 100000 in
theorem made_out (h0 : lastZ xs off m = false) (h1 : decide ((m : Int) > 0) = true → addO off (mulO (IntKind.i64.wrap ((m : Int) - 1)).toNat 1) < xs.length) (h2 : decide ((m : Int) > 0) = true → (0 ≤ IntKind.i64.wrap ((m : Int) - 1) ∧ IntKind.i64.wrap ((m : Int) - 1) < m) ∧ m ≤ xs.length) :
    Step XW0 cMade (TMade xs neg off m c) (.exit 0) (TMade xs neg off m c) :=
  step_of (Base.cx_ok bW0_ok 10).1 progOk.mixed [] 200 [false] [] (l := [lastZ xs off m = false,
    decide ((m : Int) > 0) = true → addO off (mulO (IntKind.i64.wrap ((m : Int) - 1)).toNat 1) < xs.length, decide ((m : Int) > 0) = true → (0 ≤ IntKind.i64.wrap ((m : Int) - 1) ∧ IntKind.i64.wrap ((m : Int) - 1) < m) ∧ m ≤ xs.length]) (by kernel_rfl) ⟨h0, h1, h2, trivial⟩ (by kernel_rfl) (by kernel_rfl)

noncomputable def SMade (n : Nat) : St := startAt XW0 200 191 [.bool neg, slO off n c] [(11, .ints .u64 xs)] 12 []

set_option maxRecDepth 100000 in
theorem made_ev (n : Nat) : evFn XW0 [told (.exit 0) (fun _ => TMade xs neg off m c)] 200 191 [.bool neg, slO off n c] [(11, .ints .u64 xs)] 12 [] =
    some ⟨.agg ⟨[.bool (match neg with | true => decide ((m : Int) > 0) | false => false), slO off m c]⟩, [(11, .ints .u64 xs)], 14, [LoopTo XW0 cMade (SMade xs neg off c n) (.exit 0) (TMade xs neg off m c)], []⟩ := by kernel_rfl

set_option maxRecDepth 100000 in
theorem made_into (n : Nat) (x : AX) (s' : St) (h : LoopTo XW0 cMade (TMade xs neg off n c) x s') : LoopTo XW0 cMade (SMade xs neg off c n) x s' :=
  loop_into' h [] (by kernel_rfl) (by kernel_rfl) (by kernel_rfl)
end

theorem take_snoc {l : List Int} {m : Nat} (h : m < l.length) : l.take (m + 1) = l.take m ++ [l.getD m 0] := by
  rw [List.take_add_one, List.getElem?_eq_getElem h]
  simp [List.getD, h]

/-- The loop leaves the words without the noughts. -/
theorem made_loop (xs : List Int) (neg : Bool) (off c n : Nat) (hn : off + n ≤ xs.length) (hc : n ≤ c) (hb : xs.length < 1099511627776) : LoopTo XW0 cMade (TMade xs neg off n c) (.exit 0) (TMade xs neg off (trimW ((xs.drop off).take n)).length c) := by
  refine loop_of (fun m => TMade xs neg off m c) id (fun m => m ≤ n ∧ trimW ((xs.drop off).take m) = trimW ((xs.drop off).take n)) (by intro e; cases e) (fun m hm => ?_) n ⟨Nat.le_refl _, rfl⟩
  obtain ⟨hle, he⟩ := hm

  rw [← he]
  cases m with
  | zero =>
    right
    have := made_out xs neg off 0 c rfl (fun e => by simp at e) (fun e => by simp at e)
    simpa [trimW] using this
  | succ m =>
    have hw : IntKind.i64.wrap (((m + 1 : Nat) : Int) - 1) = (m : Int) := by
      have := wrap_nat (n := m) (by omega)
      rw [← this]
      congr 1
      omega
    have hpos : decide (((m + 1 : Nat) : Int) > 0) = true := by simp
    have ha : addO off (mulO (IntKind.i64.wrap (((m + 1 : Nat) : Int) - 1)).toNat 1) = off + m := by rw [hw]; simp
    have h1 : decide (((m + 1 : Nat) : Int) > 0) = true → addO off (mulO (IntKind.i64.wrap (((m + 1 : Nat) : Int) - 1)).toNat 1) < xs.length := fun _ => by rw [ha]; omega
    have h2 : decide (((m + 1 : Nat) : Int) > 0) = true → (0 ≤ IntKind.i64.wrap (((m + 1 : Nat) : Int) - 1) ∧ IntKind.i64.wrap (((m + 1 : Nat) : Int) - 1) < ((m + 1 : Nat) : Int)) ∧ m + 1 ≤ xs.length := fun _ => by rw [hw]; omega
    have hlz : lastZ xs off (m + 1) = (xs.getD (off + m) 0 == 0) := by unfold lastZ; rw [hpos, ha]
    have hg : (xs.drop off).getD m 0 = xs.getD (off + m) 0 := by simp [List.getD, List.getElem?_drop]
    have ht := take_snoc (l := xs.drop off) (m := m) (by rw [List.length_drop]; omega)
    rw [hg] at ht
    by_cases hz : xs.getD (off + m) 0 = 0
    · left
      have hs := made_next xs neg off (m + 1) c (by rw [hlz, hz]; rfl) h1 h2 (by rw [hw]; omega)
      rw [hw] at hs
      refine ⟨m, ⟨by omega, ?_⟩, Nat.lt_succ_self _, hs⟩
      rw [ht, hz, trimW_snoc, if_pos rfl]
    · right
      have hs := made_out xs neg off (m + 1) c (by rw [hlz]; simpa using hz) h1 h2
      rw [ht, trimW_snoc, if_neg hz, ← ht, List.length_take, List.length_drop, Nat.min_eq_left (by omega)]
      exact hs

theorem made_enters : Enters Tryz.prog 191 := evFn_enters (Base.cx_ok bW0_ok 10).2 (made_ev [] false 0 0 0 0)

/-- made: over a block that holds such words; or nothing at all. -/
theorem made_calls (neg : Bool) (b : Option Nat) (off n c : Nat) (xs : List Int) (w : World) (hI : J0.I w) (hn : off + n ≤ xs.length) (hc : n ≤ c) (hb : xs.length < 1099511627776)
    (h : (b = none ∧ xs = []) ∨ ∃ g cs t fr, b = some g ∧ w.heap[g]? = some (.cells cs t fr) ∧ ∀ i, i < xs.length → cs[i]? = some (.int .u64 (xs.getD i 0))) :
    Calls Tryz.prog 191 ⟨[.bool neg, .slice (b.map fun g => ⟨g, off, none⟩) n c]⟩ w fun e w' =>
      e = .returned (.agg ⟨[.bool (match neg with | true => decide (((trimW ((xs.drop off).take n)).length : Int) > 0) | false => false), .slice (b.map fun g => ⟨g, off, none⟩) (trimW ((xs.drop off).take n)).length c]⟩) ∧ Below w.heap.size w w' := by
  have hp : Par Tryz.prog w.heap.size (fun _ => False) := ⟨hI.1, fun _ _ h => h⟩
  have hG : Tryz.prog.globals.size = 11 := by kernel_rfl
  obtain ⟨hX, _⟩ := Base.cx_ok bW0_ok 10
  have hS : ∀ ρ' : Num, Agree 12 (fun i => if i = 11 then b else some i) ρ' → Sim Tryz.prog w.heap.size (fun _ => False) ρ' [(11, .ints .u64 xs)] w ∧ ([.bool neg, .slice (b.map fun g => ⟨g, off, none⟩) n c] : List Value) = rvL ρ' [.bool neg, slO off n c] := by
    intro ρ' ha
    have h11 : ρ' 11 = b := by rw [ha 11 (by omega)]; simp
    refine ⟨⟨fun g hg => by rw [ha g (by omega)]; simp; omega, fun i o hi => ?_, fun i j o o' hi hr => ?_⟩, ?_⟩
    · rw [Heap.get_cons] at hi
      split at hi
      · rename_i e
        subst e
        cases hi
        rw [h11]
        exact h
      · simp [Heap.get] at hi
    · rw [Heap.get_cons] at hi
      split at hi
      · cases hi; cases hr
      · simp [Heap.get] at hi
    · simp only [rvL, rv, rSl, rAddr, h11]
  refine (evFn_sound hX progOk.mixed (made_ev xs neg off _ c n) ⟨made_into xs neg off c n _ _ (made_loop xs neg off c n hn hc hb), trivial⟩ hp (Nat.le_refl _) hI hS).2.mono fun e w' ⟨ρ1, v, ha, he, hk, hfin⟩ => ⟨?_, hk.below⟩
  obtain ⟨hv, _⟩ := hfin ρ1 (Agree.refl _ _)
  have h11 : ρ1 11 = b := by rw [ha 11 (by omega)]; simp
  rw [he, hv]
  simp only [rv, rvA, rvL, rSl, rAddr, h11]

/-- As a contract: the same number, a shorter slice; of nothing nothing. -/
def specMade (args : List Value) (H : Heap) (n : Nat) (ds : List Bool) : Option CR :=
  match args with
  | [.bool neg, .slice (some ⟨id, off, some kk⟩) m c] => match H.get id with
    | some (.row _ sz (.ints .u64 xs) kk') => match Nat.beq kk kk' && Nat.beq sz 1 with
      | true => some ⟨.agg ⟨[.bool (neg && decide (0 < (trimW ((xs.drop off).take m)).length)), .slice (some ⟨id, off, some kk⟩) (trimW ((xs.drop off).take m)).length c]⟩, H, n, [off = c ∧ off + m ≤ xs.length ∧ xs.length < 1099511627776], ds⟩
      | false => none
    | some (.ints .u64 xs) => match off, c with
      | 0, 0 => some ⟨.agg ⟨[.bool (neg && decide (0 < xs.length)), .slice (some ⟨id, 0, some kk⟩) m 0]⟩, H, n, [m = xs.length ∧ xs.length < 1099511627776 ∧ trimW xs = xs], ds⟩
      | _, _ => none
    | _ => none
  | [.bool neg, .slice (some ⟨id, 0, none⟩) m c] => match H.get id with
    | some (.cells cs _) => match toInts .u64 cs with
      | some xs => some ⟨.agg ⟨[.bool (neg && decide (0 < (trimW (xs.take m)).length)), .slice (some ⟨id, 0, none⟩) (trimW (xs.take m)).length c]⟩, H, n, [m ≤ xs.length ∧ m ≤ c ∧ xs.length < 1099511627776], ds⟩
      | none => none
    | _ => none
  | [.bool _, .slice none 0 0] => some ⟨.agg ⟨[.bool false, .slice none 0 0]⟩, H, n, [], ds⟩
  | _ => none

theorem neg_and (neg : Bool) (k : Nat) : (match neg with | true => decide ((k : Int) > 0) | false => false) = (neg && decide (0 < k)) := by
  cases neg
  · rfl
  · simp only [Bool.true_and]
    congr 1
    simp

theorem trimW_length_le (l : List Int) : (trimW l).length ≤ l.length := by
  unfold trimW
  rw [List.length_reverse]
  have := (List.dropWhile_sublist (l := l.reverse) (fun x => x == 0)).length_le
  simpa using this

theorem trimW_last {xs : List Int} (h : trimW xs = xs) (hp : 0 < xs.length) : xs.getD (xs.length - 1) 0 ≠ 0 := by
  intro hz
  have ht := take_snoc (l := xs) (m := xs.length - 1) (by omega)
  rw [Nat.sub_add_cancel hp, List.take_length, hz] at ht
  rw [ht, trimW_snoc, if_pos rfl] at h
  have h1 := trimW_length_le (xs.take (xs.length - 1))
  rw [h] at h1
  simp at h1
  omega

theorem made_calls_canon (neg : Bool) (b : Option Nat) (c : Nat) (xs : List Int) (w : World) (hI : J0.I w) (hb : xs.length < 1099511627776) (ht : trimW xs = xs)
    (h : (b = none ∧ xs = []) ∨ ∃ g cs t fr, b = some g ∧ w.heap[g]? = some (.cells cs t fr) ∧ ∀ i, i < xs.length → cs[i]? = some (.int .u64 (xs.getD i 0))) :
    Calls Tryz.prog 191 ⟨[.bool neg, .slice (b.map fun g => ⟨g, 0, none⟩) xs.length c]⟩ w fun e w' =>
      e = .returned (.agg ⟨[.bool (match neg with | true => decide ((xs.length : Int) > 0) | false => false), .slice (b.map fun g => ⟨g, 0, none⟩) xs.length c]⟩) ∧ Below w.heap.size w w' := by
  have hp : Par Tryz.prog w.heap.size (fun _ => False) := ⟨hI.1, fun _ _ h => h⟩
  have hG : Tryz.prog.globals.size = 11 := by kernel_rfl
  obtain ⟨hX, _⟩ := Base.cx_ok bW0_ok 10
  have hS : ∀ ρ' : Num, Agree 12 (fun i => if i = 11 then b else some i) ρ' → Sim Tryz.prog w.heap.size (fun _ => False) ρ' [(11, .ints .u64 xs)] w ∧ ([.bool neg, .slice (b.map fun g => ⟨g, 0, none⟩) xs.length c] : List Value) = rvL ρ' [.bool neg, slO 0 xs.length c] := by
    intro ρ' ha
    have h11 : ρ' 11 = b := by rw [ha 11 (by omega)]; simp
    refine ⟨⟨fun g hg => by rw [ha g (by omega)]; simp; omega, fun i o hi => ?_, fun i j o o' hi hr => ?_⟩, ?_⟩
    · rw [Heap.get_cons] at hi
      split at hi
      · rename_i e
        subst e
        cases hi
        rw [h11]
        exact h
      · simp [Heap.get] at hi
    · rw [Heap.get_cons] at hi
      split at hi
      · cases hi; cases hr
      · simp [Heap.get] at hi
    · simp only [rvL, rv, rSl, rAddr, h11]
  have hout : Step XW0 cMade (TMade xs neg 0 xs.length c) (.exit 0) (TMade xs neg 0 xs.length c) := by
    have hw : 0 < xs.length → IntKind.i64.wrap ((xs.length : Int) - 1) = ((xs.length - 1 : Nat) : Int) := fun h0 => by
      have := wrap_nat (n := xs.length - 1) (by omega)
      rw [← this]
      congr 1
      omega
    refine made_out xs neg 0 xs.length c ?_ (fun e => ?_) (fun e => ?_)
    · unfold lastZ
      split
      · rename_i e
        have h0 : 0 < xs.length := by simpa using e
        rw [hw h0]
        have := trimW_last ht h0
        simpa [addO] using this
      · rfl
    · have h0 : 0 < xs.length := by simpa using e
      rw [hw h0]
      simp
      omega
    · have h0 : 0 < xs.length := by simpa using e
      rw [hw h0]
      omega
  have hL : LoopTo XW0 cMade (TMade xs neg 0 xs.length c) (.exit 0) (TMade xs neg 0 xs.length c) := loop_run (fun _ => TMade xs neg 0 xs.length c) 0 (by intro e; cases e) (fun k hk => by omega) hout
  refine (evFn_sound hX progOk.mixed (made_ev xs neg 0 xs.length c xs.length) ⟨made_into xs neg 0 c xs.length _ _ hL, trivial⟩ hp (Nat.le_refl _) hI hS).2.mono fun e w' ⟨ρ1, v, ha, he, hk, hfin⟩ => ⟨?_, hk.below⟩
  obtain ⟨hv, _⟩ := hfin ρ1 (Agree.refl _ _)
  have h11 : ρ1 11 = b := by rw [ha 11 (by omega)]; simp
  rw [he, hv]
  simp only [rv, rvA, rvL, rSl, rAddr, h11]

theorem specMade_ok : SpecOk Tryz.prog J0 191 specMade := by
  intro args H n ds r h hl
  have fin : ∀ {B : Nat} {M : Nat → Prop} {ρ : Num} {w : World} {vs : List Value} {neg : Bool} {u : Value} {v : Value}, B ≤ w.heap.size → (∀ ρ', Agree n ρ ρ' → Sim Tryz.prog B M ρ' H w ∧ vs = rvL ρ' [.bool neg, u]) → 
      (Calls Tryz.prog 191 ⟨vs⟩ w fun e w' => (∃ x, e = .returned x ∧ ∀ ρ', Agree n ρ ρ' → x = rv ρ' v) ∧ Below w.heap.size w w') →
      Calls Tryz.prog 191 ⟨vs⟩ w fun e w' => ∃ ρ1 x, Agree n ρ ρ1 ∧ e = .returned x ∧ Keeps B M w w' ∧ ∀ ρ', Agree n ρ1 ρ' → x = rv ρ' v ∧ Sim Tryz.prog B M ρ' H w' := by
    intro B M ρ w vs neg u v hB hS hc
    exact hc.mono fun e w' ⟨⟨x, he, hx⟩, hb⟩ => ⟨ρ, x, Agree.refl _ _, he, Keeps.of_below hb hB, fun ρ' ha => ⟨hx ρ' ha, (hS ρ' ha).1.below hb⟩⟩
  unfold specMade at h
  split at h
  · rename_i neg id off kk m c
    split at h
    · rename_i e sz xs kk' hget
      split at h
      case h_2 => cases h
      rename_i hc
      simp only [Bool.and_eq_true, Nat.beq_eq] at hc
      obtain ⟨rfl, rfl⟩ := hc
      cases h
      obtain ⟨rfl, h2, h3⟩ := hl.1
      refine ⟨Nat.le_refl _, made_enters, fun B M ρ w vs hp hB hI hS => fin hB hS ?_⟩
      have hvs := (hS ρ (Agree.refl _ _)).2
      rcases (hS ρ (Agree.refl _ _)).1.obj id _ hget with ⟨g1, g2⟩ | ⟨b, cap, cur, g1, g2, ⟨fr, g3, _⟩, g4, g5, g6, g7, g8⟩
      · have hx : xs = [] := by simpa [Row.list] using g2
        subst hx
        have h0 : off = 0 := by simp at h2; omega
        have hm : m = 0 := by simp at h2; omega
        subst h0 hm
        have := made_calls neg none 0 0 0 [] w hI (by simp) (Nat.le_refl _) (by simp) (.inl ⟨rfl, rfl⟩)
        have e1 : vs = [.bool neg, .slice none 0 0] := by rw [hvs]; simp [rvL, rv, rSl, g1]
        rw [e1]
        refine this.mono fun e w' ⟨he, hb⟩ => ⟨⟨_, he, fun ρ' ha => ?_⟩, hb⟩
        have e2 := (hS ρ' ha).2
        rw [e1] at e2
        simp only [rvL, rv, List.cons.injEq, and_true] at e2
        simp only [rv, rvA, rvL, neg_and]
        have : rSl ρ' ⟨id, 0, some kk⟩ (trimW (([] : List Int).drop 0 |>.take 0)).length 0 = rSl ρ' ⟨id, 0, some kk⟩ 0 0 := rfl
        rw [this, ← e2.2]
        rfl
      · simp only [Row.list, List.length_map, Nat.mul_one] at g6 g7 g8
        rw [ints_rv] at g8
        have hxs : ∀ i, i < xs.length → cur[i]? = some (.int .u64 (xs.getD i 0)) := fun i hi => by
          have := getD_take (xs := xs) (n := xs.length) hi .u64 hi
          rw [List.take_length, ← g8, List.getElem?_take, if_pos hi] at this
          simpa using this
        have := made_calls neg (some b) off m (cap - off) xs w hI h2 (by omega) h3 (.inr ⟨b, cur, e, fr, rfl, g3, hxs⟩)
        have e1 : vs = [.bool neg, .slice (some ⟨b, off, none⟩) m (cap - off)] := by rw [hvs]; simp [rvL, rv, rSl, g1, g2]
        rw [e1]
        refine this.mono fun e w' ⟨he, hb⟩ => ⟨⟨_, he, fun ρ' ha => ?_⟩, hb⟩
        rcases (hS ρ' ha).1.obj id _ hget with ⟨q1, q2⟩ | ⟨b', cap', cur', q1, q2, ⟨fr', q3, _⟩, _⟩
        · have hx : xs = [] := by simpa [Row.list] using q2
          have e2 := (hS ρ' ha).2
          rw [e1] at e2
          simp [rvL, rv, rSl, q1] at e2
        · have e2 := (hS ρ' ha).2
          rw [e1] at e2
          simp [rvL, rv, rSl, q1, q2] at e2
          simp only [rv, rvA, rvL, rSl, q1, q2, neg_and, Option.getD_some, Option.map_some, ← e2.1, ← e2.2]
    · rename_i xs hget
      split at h
      case h_2 => cases h
      cases h
      obtain ⟨rfl, h2, h3⟩ := hl.1
      refine ⟨Nat.le_refl _, made_enters, fun B M ρ w vs hp hB hI hS => fin hB hS ?_⟩
      have hvs := (hS ρ (Agree.refl _ _)).2
      have hobj : (ρ id = none ∧ xs = []) ∨ ∃ g cs t fr, ρ id = some g ∧ w.heap[g]? = some (.cells cs t fr) ∧ ∀ i, i < xs.length → cs[i]? = some (.int .u64 (xs.getD i 0)) := (hS ρ (Agree.refl _ _)).1.obj id _ hget
      have e1 : ∃ cap, vs = [.bool neg, .slice ((ρ id).map fun g => ⟨g, 0, none⟩) xs.length cap] := by
        cases hq : ρ id with
        | none => exact ⟨0, by rw [hvs]; simp [rvL, rv, rSl, hq]⟩
        | some g => exact ⟨_, by rw [hvs]; simp [rvL, rv, rSl, hq]; rfl⟩
      obtain ⟨cap, e1⟩ := e1
      have := made_calls_canon neg (ρ id) cap xs w hI h2 h3 hobj
      rw [← e1] at this
      refine this.mono fun e w' ⟨he, hb⟩ => ⟨⟨_, he, fun ρ' ha => ?_⟩, hb⟩
      have e2 := (hS ρ' ha).2
      rw [e1] at e2
      simp only [rvL, rv, List.cons.injEq, and_true] at e2
      simp only [rv, rvA, rvL, neg_and, ← e2.2]
    · cases h
  · rename_i neg id m c
    split at h
    case h_2 => cases h
    rename_i cs e hget
    split at h
    case h_2 => cases h
    rename_i xs ht
    cases h
    obtain ⟨h1, h2, h3⟩ := hl.1
    have hcs := toInts_spec ht
    subst hcs
    refine ⟨Nat.le_refl _, made_enters, fun B M ρ w vs hp hB hI hS => fin hB hS ?_⟩
    have hvs := (hS ρ (Agree.refl _ _)).2
    obtain ⟨b, g1, g2, _⟩ := (hS ρ (Agree.refl _ _)).1.obj id _ hget
    rw [ints_rv] at g2
    have hxs : ∀ i, i < xs.length → (xs.map (Value.int .u64)).toArray[i]? = some (.int .u64 (xs.getD i 0)) := fun i hi => by
      have := getD_take (xs := xs) (n := xs.length) hi .u64 hi
      rw [List.take_length] at this
      simpa using this
    have := made_calls neg (some b) 0 m c xs w hI (by omega) h2 h3 (.inr ⟨b, _, e, (0, 0), rfl, g2, hxs⟩)
    have e1 : vs = [.bool neg, .slice (some ⟨b, 0, none⟩) m c] := by rw [hvs]; simp [rvL, rv, rSl, rAddr, g1]
    rw [e1]
    refine this.mono fun e w' ⟨he, hb⟩ => ⟨⟨_, he, fun ρ' ha => ?_⟩, hb⟩
    obtain ⟨b', q1, q2, _⟩ := (hS ρ' ha).1.obj id _ hget
    have e2 := (hS ρ' ha).2
    rw [e1] at e2
    simp [rvL, rv, rSl, rAddr, q1] at e2
    simp only [rv, rvA, rvL, rSl, rAddr, q1, neg_and, Option.map_some, ← e2, List.drop_zero]
  · rename_i neg
    cases h
    refine ⟨Nat.le_refl _, made_enters, fun B M ρ w vs hp hB hI hS => fin hB hS ?_⟩
    have hvs := (hS ρ (Agree.refl _ _)).2
    have := made_calls neg none 0 0 0 [] w hI (by simp) (Nat.le_refl _) (by simp) (.inl ⟨rfl, rfl⟩)
    have e1 : vs = [.bool neg, .slice none 0 0] := by rw [hvs]; simp [rvL, rv]
    rw [e1]
    refine this.mono fun e w' ⟨he, hb⟩ => ⟨⟨_, he, fun ρ' ha => ?_⟩, hb⟩
    simp only [rv, rvA, rvL]
    cases neg <;> rfl
  · cases h

end Go.Proofs.YtaopinmjgjpiiaaGreatDoor
