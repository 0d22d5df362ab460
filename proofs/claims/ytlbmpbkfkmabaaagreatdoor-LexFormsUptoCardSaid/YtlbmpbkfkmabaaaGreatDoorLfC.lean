/-
  The document's IsName of any text, as a contract: it answers as lex.IsName does.
-/
import Derived.Test.YtlbmpbkfkmabaaaGreatDoorLfB
namespace Go.Proofs.YtlbmpbkfkmabaaaGreatDoor
open Go Go.RowKit Ev

noncomputable def cLm : Code := loopAt Tryz.prog 13 0
noncomputable def tM (t : List UInt8) (i : Int) : St := ⟨only 35 [(0, .string ⟨⟨t⟩⟩), (3, .int .i64 i)], J0.tabs, 11, [], [], 0, none, [], 11⟩
noncomputable def tMr : St := ⟨only 35 [(2, .bool false)], J0.tabs, 11, [], [], 0, none, [], 11⟩
def longC (t : List UInt8) : Bool := match decide ((t.length : Int) < 1) with | true => true | false => decide ((t.length : Int) > 32)
def headC2 (t : List UInt8) : Bool := match longC t with | true => true | false => !letB (byI t 0)
def headD (t : List UInt8) : Bool := match headC2 t with | true => true | false => (runN t : Int) != (t.length : Int)
def headQ (t : List UInt8) : Prop := condP [(14, headC2 t), (8, longC t), (3, decide ((t.length : Int) < 1))] [(14, false)] → t.length ≤ 9223372036854775807
def headR (t : List UInt8) : Prop := condP [(8, longC t), (3, decide ((t.length : Int) < 1))] [(8, false)] → (0 : Int) ≤ 0 ∧ (0 : Int).toNat < t.length

section
variable (t : List UInt8) (i : Nat)
set_option maxRecDepth 100000 in
theorem lm_go (hl : allP [(byI t i == 36) = false, Int.ofNat 0 ≤ Int.ofNat i ∧ i < t.length, decide (Int.ofNat i < Int.ofNat t.length) = true]) : Step XLf1 cLm (tM t (i : Int)) .normal (tM t (IntKind.i64.wrap ((i : Int) + 1))) :=
  step_of (Base.cx_ok bLf1_ok 12).1 progOk.mixed [] 200 [true, false] [] (by kernel_rfl) hl (by kernel_rfl) (by kernel_rfl)
set_option maxRecDepth 100000 in
theorem lm_bad (hl : allP [(byI t i == 36) = true, Int.ofNat 0 ≤ Int.ofNat i ∧ i < t.length, decide (Int.ofNat i < Int.ofNat t.length) = true]) : Step XLf1 cLm (tM t (i : Int)) .ret tMr :=
  step_of (Base.cx_ok bLf1_ok 12).1 progOk.mixed [] 200 [true, true] [] (by kernel_rfl) hl (by kernel_rfl) (by kernel_rfl)
set_option maxRecDepth 100000 in
theorem lm_end (hl : allP [decide (Int.ofNat i < Int.ofNat t.length) = false]) : Step XLf1 cLm (tM t (i : Int)) (.exit 0) (tM t (i : Int)) :=
  step_of (Base.cx_ok bLf1_ok 12).1 progOk.mixed [] 200 [false] [] (by kernel_rfl) hl (by kernel_rfl) (by kernel_rfl)
set_option maxRecDepth 100000 in
theorem im_head : pureCall XLf1 [] 200 13 [.string ⟨⟨t⟩⟩] [true] = some (.bool false, [headD t = true, headQ t, headR t]) := by kernel_rfl
set_option maxRecDepth 100000 in
theorem im_all : pureCall XLf1 [told (.exit 0) (fun _ => tM t (i : Int))] 200 13 [.string ⟨⟨t⟩⟩] [false] = some (.bool true, [LoopTo XLf1 cLm (startAt XLf1 200 13 [.string ⟨⟨t⟩⟩] J0.tabs Tryz.prog.globals.size [false]) (.exit 0) (tM t (i : Int)), headD t = false, headQ t, headR t]) := by kernel_rfl
set_option maxRecDepth 100000 in
theorem im_bad : pureCall XLf1 [told .ret (fun _ => tMr)] 200 13 [.string ⟨⟨t⟩⟩] [false] = some (.bool false, [LoopTo XLf1 cLm (startAt XLf1 200 13 [.string ⟨⟨t⟩⟩] J0.tabs Tryz.prog.globals.size [false]) .ret tMr, headD t = false, headQ t, headR t]) := by kernel_rfl
theorem lm_into {x : AX} {s' : St} (h : LoopTo XLf1 cLm (tM t ((0 : Nat) : Int)) x s') : LoopTo XLf1 cLm (startAt XLf1 200 13 [.string ⟨⟨t⟩⟩] J0.tabs Tryz.prog.globals.size [false]) x s' :=
  loop_into' h [] (by kernel_rfl) (by kernel_rfl) (by kernel_rfl)
end

theorem long_eq (t : List UInt8) : longC t = longB t := by
  unfold longC longB
  cases t with
  | nil => rfl
  | cons c r =>
    rw [decide_eq_false (show ¬(((c :: r).length : Int) < 1) by simp only [List.length_cons]; omega)]
    rfl
theorem head_eq (t : List UInt8) : headC2 t = headB t := by
  unfold headC2 headB
  rw [long_eq]
  cases longB t <;> rfl
theorem headR_ok (t : List UInt8) : headR t := by
  intro hc
  refine ⟨Int.le_refl _, ?_⟩
  cases t with
  | nil => simp [condP, kvP, longC] at hc
  | cons c r => simp

theorem bad_split {t : List UInt8} {i : Nat} : badB t i = false ↔ namB (byI t i) = true ∧ (byI t i == 36) = false := by
  unfold badB
  cases namB (byI t i) <;> simp

theorem isName2_pure {t : List UInt8} (ht : t.length ≤ 9223372036854775807) : Ev.Pure Tryz.prog J0 13 [.string ⟨⟨t⟩⟩] (.bool (nameB t)) := by
  obtain ⟨r1, r2, r3⟩ := runN_spec t
  have hq : headQ t := fun _ => ht
  cases hd : headD t with
  | true =>
    rw [show nameB t = false by
      unfold nameB
      cases hh : headB t with
      | true => rfl
      | false =>
        rw [Bool.not_false, Bool.true_and, List.all_eq_false]
        unfold headD at hd
        rw [head_eq, hh] at hd
        have hne : runN t ≠ t.length := fun e => by simp [e] at hd
        have hnn := r3.resolve_left hne
        refine ⟨runN t, List.mem_range.2 (by omega), ?_⟩
        unfold badB
        rw [hnn]
        simp]
    exact pureC bLf1_ok (im_head t) ⟨hd, hq, headR_ok t, trivial⟩
  | false =>
    have hd' := hd
    unfold headD at hd'
    rw [head_eq] at hd'
    cases hh : headB t with
    | true => rw [hh] at hd'; cases hd'
    | false =>
      rw [hh] at hd'
      have hrun : runN t = t.length := by
        have : ((runN t : Int) != (t.length : Int)) = false := hd'
        have : (runN t : Int) = (t.length : Int) := by simpa using this
        omega
      rw [hrun] at r2
      have go : ∀ k, k ≤ t.length → (∀ i, i < k → (byI t i == 36) = false) → ∀ i, i < k → Step XLf1 cLm (tM t (i : Int)) .normal (tM t ((i + 1 : Nat) : Int)) := fun k hk h i hi => by
        have := lm_go t i ⟨h i hi, ⟨Int.natCast_nonneg _, by omega⟩, decide_eq_true (Int.ofNat_lt.2 (by omega)), trivial⟩
        rw [wrap_inc (by omega)] at this
        exact this
      rcases first_of (fun i => byI t i == 36) t.length with h | ⟨k, h1, h2, h3⟩
      · rw [show nameB t = true by
          unfold nameB
          rw [hh, Bool.not_false, Bool.true_and, List.all_eq_true]
          intro i hi
          have hi := List.mem_range.1 hi
          rw [bad_split.2 ⟨r2 i hi, h i hi⟩]
          rfl]
        exact pureC bLf1_ok (im_all t t.length) ⟨lm_into t (loop_run (fun i => tM t (i : Int)) t.length (by intro e; cases e) (go _ (Nat.le_refl _) h) (lm_end t _ ⟨decide_eq_false (Int.lt_irrefl _), trivial⟩)), hd, hq, headR_ok t, trivial⟩
      · rw [show nameB t = false by
          unfold nameB
          rw [hh, Bool.not_false, Bool.true_and, List.all_eq_false]
          refine ⟨k, List.mem_range.2 h1, ?_⟩
          have hb : badB t k = true := by
            unfold badB
            split
            · rfl
            · exact h2
          rw [hb]
          simp]
        exact pureC bLf1_ok (im_bad t) ⟨lm_into t (loop_run (fun i => tM t (i : Int)) k (by intro e; cases e) (go _ (by omega) h3) (lm_bad t k ⟨h2, ⟨Int.natCast_nonneg _, h1⟩, decide_eq_true (Int.ofNat_lt.2 h1), trivial⟩)), hd, hq, headR_ok t, trivial⟩

end Go.Proofs.YtlbmpbkfkmabaaaGreatDoor
