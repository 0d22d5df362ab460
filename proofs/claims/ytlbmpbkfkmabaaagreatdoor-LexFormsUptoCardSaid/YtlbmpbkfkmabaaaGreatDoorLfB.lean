/-
  lex.IsName of any text, as a contract; how many bytes of names stand at a text's beginning.
-/
import Derived.Test.YtlbmpbkfkmabaaaGreatDoorLfA
import Derived.Test.YtlbmpbkfkmabaaaGreatDoorEvM
namespace Go.Proofs.YtlbmpbkfkmabaaaGreatDoor
open Go Go.RowKit Ev

noncomputable def cLn : Code := loopAt Tryz.prog 12 0
noncomputable def cLr : Code := loopAt Tryz.prog 34 0
abbrev byI (t : List UInt8) (i : Nat) : Int := ↑(bytesAt ⟨⟨t⟩⟩ i)
def badB (t : List UInt8) (i : Nat) : Bool := match !namB (byI t i) with | true => true | false => byI t i == 36
def longB (t : List UInt8) : Bool := match t == ([] : List UInt8) with | true => true | false => decide ((t.length : Int) > 32)
def headB (t : List UInt8) : Bool := match longB t with | true => true | false => !letB (byI t 0)
def headP (t : List UInt8) : Prop := condP [(7, longB t), (2, t == ([] : List UInt8))] [(7, false)] → (0 : Int) ≤ 0 ∧ (0 : Int).toNat < t.length
noncomputable def tN (t : List UInt8) (i : Int) : St := ⟨only 34 [(0, .string ⟨⟨t⟩⟩), (18, .int .i64 t.length), (19, .int .i64 i)], J0.tabs, 11, [], [], 0, none, [], 11⟩
noncomputable def tNr : St := ⟨only 34 [(2, .bool false)], J0.tabs, 11, [], [], 0, none, [], 11⟩
noncomputable def tR (t : List UInt8) (i : Int) : St := ⟨only 17 [(0, .string ⟨⟨t⟩⟩), (3, .int .i64 i)], J0.tabs, 11, [], [], 0, none, [], 11⟩
def runB (t : List UInt8) (i : Nat) : Bool := match decide ((i : Int) < (t.length : Int)) with | true => namB (byI t i) | false => false
def runP (t : List UInt8) (i : Nat) : Prop := condP [(4, decide ((i : Int) < (t.length : Int)))] [(4, true)] → (0 : Int) ≤ i ∧ (i : Int).toNat < t.length
def badP (t : List UInt8) (i : Nat) : Prop := condP [(5, !namB (byI t i))] [(5, false)] → (0 : Int) ≤ i ∧ (i : Int).toNat < t.length

section
variable (t : List UInt8) (i : Nat)
set_option maxRecDepth 100000 in
theorem ln_go (hl : allP [badB t i = false, badP t i, Int.ofNat 0 ≤ Int.ofNat i ∧ i < t.length, decide (Int.ofNat i < Int.ofNat t.length) = true]) : Step XLf0 cLn (tN t (i : Int)) .normal (tN t (IntKind.i64.wrap ((i : Int) + 1))) :=
  step_of (Base.cx_ok bLf0_ok 12).1 progOk.mixed [] 200 [true, false] [] (by kernel_rfl) hl (by kernel_rfl) (by kernel_rfl)
set_option maxRecDepth 100000 in
theorem ln_bad (hl : allP [badB t i = true, badP t i, Int.ofNat 0 ≤ Int.ofNat i ∧ i < t.length, decide (Int.ofNat i < Int.ofNat t.length) = true]) : Step XLf0 cLn (tN t (i : Int)) .ret tNr :=
  step_of (Base.cx_ok bLf0_ok 12).1 progOk.mixed [] 200 [true, true] [] (by kernel_rfl) hl (by kernel_rfl) (by kernel_rfl)
set_option maxRecDepth 100000 in
theorem ln_end (hl : allP [decide (Int.ofNat i < Int.ofNat t.length) = false]) : Step XLf0 cLn (tN t (i : Int)) (.exit 0) (tN t (i : Int)) :=
  step_of (Base.cx_ok bLf0_ok 12).1 progOk.mixed [] 200 [false] [] (by kernel_rfl) hl (by kernel_rfl) (by kernel_rfl)
set_option maxRecDepth 100000 in
theorem lr_go (hl : allP [runB t i = true, runP t i]) : Step XLf0 cLr (tR t (i : Int)) .normal (tR t (IntKind.i64.wrap ((i : Int) + 1))) :=
  step_of (Base.cx_ok bLf0_ok 12).1 progOk.mixed [] 200 [true] [] (by kernel_rfl) hl (by kernel_rfl) (by kernel_rfl)
set_option maxRecDepth 100000 in
theorem lr_end (hl : allP [runB t i = false, runP t i]) : Step XLf0 cLr (tR t (i : Int)) (.exit 0) (tR t (i : Int)) :=
  step_of (Base.cx_ok bLf0_ok 12).1 progOk.mixed [] 200 [false] [] (by kernel_rfl) hl (by kernel_rfl) (by kernel_rfl)

set_option maxRecDepth 100000 in
theorem il_head : pureCall XLf0 [] 200 12 [.string ⟨⟨t⟩⟩] [true] = some (.bool false, [headB t = true, headP t]) := by kernel_rfl
set_option maxRecDepth 100000 in
theorem il_all : pureCall XLf0 [told (.exit 0) (fun _ => tN t (i : Int))] 200 12 [.string ⟨⟨t⟩⟩] [false] = some (.bool true, [LoopTo XLf0 cLn (startAt XLf0 200 12 [.string ⟨⟨t⟩⟩] J0.tabs Tryz.prog.globals.size [false]) (.exit 0) (tN t (i : Int)), headB t = false, headP t]) := by kernel_rfl
set_option maxRecDepth 100000 in
theorem il_bad : pureCall XLf0 [told .ret (fun _ => tNr)] 200 12 [.string ⟨⟨t⟩⟩] [false] = some (.bool false, [LoopTo XLf0 cLn (startAt XLf0 200 12 [.string ⟨⟨t⟩⟩] J0.tabs Tryz.prog.globals.size [false]) .ret tNr, headB t = false, headP t]) := by kernel_rfl
theorem ln_into {x : AX} {s' : St} (h : LoopTo XLf0 cLn (tN t ((0 : Nat) : Int)) x s') : LoopTo XLf0 cLn (startAt XLf0 200 12 [.string ⟨⟨t⟩⟩] J0.tabs Tryz.prog.globals.size [false]) x s' :=
  loop_into' h [] (by kernel_rfl) (by kernel_rfl) (by kernel_rfl)
set_option maxRecDepth 100000 in
theorem ir_run : pureCall XLf0 [told (.exit 0) (fun _ => tR t (i : Int))] 200 34 [.string ⟨⟨t⟩⟩] [] = some (.int .i64 (i : Int), [LoopTo XLf0 cLr (startAt XLf0 200 34 [.string ⟨⟨t⟩⟩] J0.tabs Tryz.prog.globals.size []) (.exit 0) (tR t (i : Int))]) := by kernel_rfl
theorem lr_into {x : AX} {s' : St} (h : LoopTo XLf0 cLr (tR t ((0 : Nat) : Int)) x s') : LoopTo XLf0 cLr (startAt XLf0 200 34 [.string ⟨⟨t⟩⟩] J0.tabs Tryz.prog.globals.size []) x s' :=
  loop_into' h [] (by kernel_rfl) (by kernel_rfl) (by kernel_rfl)
end

/-- The first of so many at which something holds, or none. -/
theorem first_of (p : Nat → Bool) : ∀ n, (∀ i, i < n → p i = false) ∨ ∃ k, k < n ∧ p k = true ∧ ∀ i, i < k → p i = false
  | 0 => .inl fun i hi => by omega
  | n + 1 => by
    rcases first_of p n with h | ⟨k, h1, h2, h3⟩
    · cases hb : p n with
      | true => exact .inr ⟨n, by omega, hb, h⟩
      | false =>
        refine .inl fun i hi => ?_
        rcases Nat.lt_succ_iff_lt_or_eq.1 hi with h' | rfl
        · exact h i h'
        · exact hb
    · exact .inr ⟨k, by omega, h2, h3⟩

/-- Is a text a name by its form? -/
def nameB (t : List UInt8) : Bool := !headB t && (List.range t.length).all fun i => !badB t i

theorem head_ok (t : List UInt8) : headP t := by
  intro hc
  refine ⟨Int.le_refl _, ?_⟩
  cases t with
  | nil => simp [condP, kvP, longB] at hc
  | cons c r => simp
theorem bad_ok {t : List UInt8} {i : Nat} (h : i < t.length) : badP t i := fun _ => ⟨Int.natCast_nonneg _, h⟩
theorem run_ok (t : List UInt8) (i : Nat) : runP t i := fun hc => ⟨Int.natCast_nonneg _, by
  have : (i : Int) < (t.length : Int) := by simpa [condP, kvP] using hc
  show i < t.length
  omega⟩
theorem wrap_inc {n : Nat} (h : n < 9223372036854775807) : IntKind.i64.wrap ((n : Int) + 1) = ((n + 1 : Nat) : Int) := by
  have := IntKind.wrap_i64 ((n : Int) + 1)
  omega

theorem isName1_pure {t : List UInt8} (ht : t.length ≤ 9223372036854775807) : Ev.Pure Tryz.prog J0 12 [.string ⟨⟨t⟩⟩] (.bool (nameB t)) := by
  cases hh : headB t with
  | true =>
    rw [show nameB t = false by unfold nameB; rw [hh]; rfl]
    exact pureC bLf0_ok (il_head t) ⟨hh, head_ok t, trivial⟩
  | false =>
    have go : ∀ k, k ≤ t.length → (∀ i, i < k → badB t i = false) → ∀ i, i < k → Step XLf0 cLn (tN t (i : Int)) .normal (tN t ((i + 1 : Nat) : Int)) := fun k hk h i hi => by
      have := ln_go t i ⟨h i hi, bad_ok (by omega), ⟨Int.natCast_nonneg _, by omega⟩, decide_eq_true (Int.ofNat_lt.2 (by omega)), trivial⟩
      rw [wrap_inc (by omega)] at this
      exact this
    rcases first_of (badB t) t.length with h | ⟨k, h1, h2, h3⟩
    · rw [show nameB t = true by
        unfold nameB
        rw [hh, Bool.not_false, Bool.true_and, List.all_eq_true]
        intro i hi
        rw [h i (List.mem_range.1 hi)]
        rfl]
      exact pureC bLf0_ok (il_all t t.length) ⟨ln_into t (loop_run (fun i => tN t (i : Int)) t.length (by intro e; cases e) (go _ (Nat.le_refl _) h) (ln_end t _ ⟨decide_eq_false (Int.lt_irrefl _), trivial⟩)), hh, head_ok t, trivial⟩
    · rw [show nameB t = false by
        unfold nameB
        rw [hh, Bool.not_false, Bool.true_and, List.all_eq_false]
        exact ⟨k, List.mem_range.2 h1, by rw [h2]; simp⟩]
      exact pureC bLf0_ok (il_bad t) ⟨ln_into t (loop_run (fun i => tN t (i : Int)) k (by intro e; cases e) (go _ (by omega) h3) (ln_bad t k ⟨h2, bad_ok h1, ⟨Int.natCast_nonneg _, h1⟩, decide_eq_true (Int.ofNat_lt.2 h1), trivial⟩)), hh, head_ok t, trivial⟩

/-- How many. -/
theorem run_pure {t : List UInt8} (ht : t.length ≤ 9223372036854775807) {k : Nat} (hk : k ≤ t.length) (h : ∀ i, i < k → namB (byI t i) = true) (he : k = t.length ∨ namB (byI t k) = false) : Ev.Pure Tryz.prog J0 34 [.string ⟨⟨t⟩⟩] (.int .i64 (k : Int)) := by
  refine pureC bLf0_ok (ir_run t k) ⟨lr_into t (loop_run (fun i => tR t (i : Int)) k (by intro e; cases e) (fun i hi => ?_) (lr_end t k ⟨?_, run_ok t k, trivial⟩)), trivial⟩
  · have := lr_go t i ⟨by unfold runB; rw [decide_eq_true (show (i : Int) < (t.length : Int) by omega)]; exact h i hi, run_ok t i, trivial⟩
    rw [wrap_inc (by omega)] at this
    exact this
  · unfold runB
    rcases he with rfl | he
    · rw [decide_eq_false (Int.lt_irrefl _)]
    · split
      · exact he
      · rfl

def cnt (p : Nat → Bool) : Nat → Nat → Nat
  | 0, i => i
  | f + 1, i => match p i with
    | true => cnt p f (i + 1)
    | false => i
theorem cnt_spec (p : Nat → Bool) : ∀ (f i : Nat), i ≤ cnt p f i ∧ cnt p f i ≤ i + f ∧ (∀ j, i ≤ j → j < cnt p f i → p j = true) ∧ (cnt p f i = i + f ∨ p (cnt p f i) = false)
  | 0, i => ⟨Nat.le_refl _, Nat.le_refl _, fun j h1 h2 => by have : j < i := h2; omega, .inl rfl⟩
  | f + 1, i => by
    unfold cnt
    cases hb : p i with
    | false => exact ⟨Nat.le_refl _, by show i ≤ i + (f + 1); omega, fun j h1 h2 => by have : j < i := h2; omega, .inr hb⟩
    | true =>
      obtain ⟨a, b, c, d⟩ := cnt_spec p f (i + 1)
      simp only
      refine ⟨by omega, by omega, fun j h1 h2 => ?_, ?_⟩
      · by_cases hj : j = i
        · rw [hj, hb]
        · exact c j (by omega) h2
      · rcases d with d | d
        · exact .inl (by omega)
        · exact .inr d
def runN (t : List UInt8) : Nat := cnt (fun i => namB (byI t i)) t.length 0
theorem runN_spec (t : List UInt8) : runN t ≤ t.length ∧ (∀ i, i < runN t → namB (byI t i) = true) ∧ (runN t = t.length ∨ namB (byI t (runN t)) = false) := by
  obtain ⟨_, b, c, d⟩ := cnt_spec (fun i => namB (byI t i)) t.length 0
  exact ⟨by unfold runN; omega, fun i hi => c i (Nat.zero_le _) hi, by unfold runN; rw [Nat.zero_add] at d; exact d⟩
def specRun : List Value → Option (Value × List Prop)
  | [.string ⟨⟨t⟩⟩] => some (.int .i64 (runN t), [t.length ≤ 9223372036854775807])
  | _ => none
theorem specRun_ok (args : List Value) (v : Value) (l : List Prop) (h : specRun args = some (v, l)) (hl : allP l) : Ev.Pure Tryz.prog J0 34 args v := by
  unfold specRun at h
  split at h
  · rename_i t
    cases h
    obtain ⟨h1, h2, h3⟩ := runN_spec t
    exact run_pure hl.1 h1 h2 h3
  · cases h
noncomputable def tabLf1 : Tab := tabAdd 34 specRun tabLf0
theorem tabLf1_ok : PcOk Tryz.prog J0 tabLf1 := tabAdd_ok specRun_ok tabLf0_ok
noncomputable def bLf1 : Base := ⟨Tryz.prog, J0, false, tabLf1, mtab0, 2000, xtN0⟩
theorem bLf1_ok : BaseOk bLf1 := ⟨progOk, tabLf1_ok, mtab0_ok _ _, xtN0_ok⟩
noncomputable abbrev XLf1 := bLf1.cx 12

end Go.Proofs.YtlbmpbkfkmabaaaGreatDoor
