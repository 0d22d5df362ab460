/-
  Layer 10 (addr): Parse, as plain states.
-/
import Derived.Test.YthclpocignpfhaaDoorAdB
import Derived.Test.YthclpocignpfhaaDoorAdP
namespace Go.Proofs.YthclpocignpfhaaDoor
open Go Go.RowKit Ev AdS

theorem get_bang (s : List UInt8) (i : Nat) (h : i < s.length) : (ByteArray.mk ⟨s⟩).get! i = s[i] := by
  show (Array.mk s)[i]! = _
  simp [h]

theorem dec_ascii {s : List UInt8} {i : Nat} (h : i < s.length) (hb : s[i].toNat < 128) : Utf8.decode ⟨⟨s⟩⟩ i = (s[i].toNat, 1) := by
  unfold Utf8.decode
  simp only [Nat.add_zero, get_bang s i h]
  rw [if_pos hb]

theorem dec_high {s : List UInt8} {i : Nat} (h : i < s.length) (hb : ¬ s[i].toNat < 128) : 128 ≤ (Utf8.decode ⟨⟨s⟩⟩ i).1 := by
  unfold Utf8.decode
  simp only [Nat.add_zero, get_bang s i h]
  rw [if_neg hb]
  split
  · split
    · assumption
    · show 128 ≤ Utf8.runeError; decide
  · split
    · split
      · rename_i hc
        simp only [Bool.and_eq_true, decide_eq_true_eq, ge_iff_le] at hc
        omega
      · show 128 ≤ Utf8.runeError; decide
    · split
      · split
        · rename_i hc
          simp only [Bool.and_eq_true, decide_eq_true_eq, ge_iff_le] at hc
          omega
        · show 128 ≤ Utf8.runeError; decide
      · show 128 ≤ Utf8.runeError; decide

noncomputable abbrev X10 : Cx := bB3.cx 10

noncomputable def S9 (s : List UInt8) : St := startAt X10 200 9 [.string ⟨⟨s⟩⟩] [] 6 []
noncomputable def c9 : Code := loopAt Tryd.prog 9 0

/-- the states between two rounds -/
def T9 (S : St) (s : List UInt8) (pos : Nat) (st c r : Int) (p q : Bool) : St :=
  match S with
  | ⟨tm, hp, n, _, _, _, rd, mq, b⟩ => ⟨only tm.length [(0, .string ⟨⟨s⟩⟩), (2, .pointer (some ⟨6, 0, none⟩)), (3, vi 0), (4, .pointer (some ⟨8, 0, none⟩)), (5, vi st), (11, .pointer (some ⟨11, 0, none⟩))],
     (hp.set 11 (.iter ⟨⟨s⟩⟩ pos)).set 8 (.cells [vi c, vi r, .bool p, .bool q] 26), n, [], [], 0, rd, mq, b⟩
/-- the form is not kept -/
def R9 (S : St) : St :=
  match S with
  | ⟨tm, _, n, _, _, _, rd, mq, b⟩ => ⟨only tm.length [(2, .pointer (some ⟨6, 0, none⟩)), (3, vi 3)], [(6, .cells [vi 0, vi 0, .bool false, .bool false] 26)], n, [], [], 0, rd, mq, b⟩

def alfI (ch : Int) : Bool := (decide (ch ≥ 65) && decide (ch ≤ 90)) || (decide (ch ≥ 97) && decide (ch ≤ 122))
def digI (ch : Int) : Bool := decide (ch ≥ 48) && decide (ch ≤ 57)

def rawLow (ch : Int) : Int := IntKind.i64.wrap (IntKind.i32.wrap (IntKind.i32.wrap (Int.ofNat (Nat.lor (BitVec.ofInt IntKind.i32.bits ch).toNat (BitVec.ofInt IntKind.i32.bits 32).toNat)) - 97))
def rawCol (c ch : Int) : Int := IntKind.i64.wrap (IntKind.i64.wrap (IntKind.i64.wrap (26 * c) + rawLow ch) + 1)
def rawRow (r ch : Int) : Int := IntKind.i64.wrap (IntKind.i64.wrap (10 * r) + IntKind.i64.wrap (IntKind.i32.wrap (ch - 48)))

section
variable (s : List UInt8) (pos : Nat) (st c r : Int) (p q : Bool)
abbrev ch (s : List UInt8) (pos : Nat) : Int := ((Utf8.decode ⟨⟨s⟩⟩ pos).1 : Int)
abbrev wd (s : List UInt8) (pos : Nat) : Nat := (Utf8.decode ⟨⟨s⟩⟩ pos).2

set_option maxRecDepth 100000 in
theorem p_mark (hp : pos < s.length) (h1 : (ch s pos == 36 && st == 0) = true) : Step X10 c9 (T9 (S9 s) s pos st c r p q) .normal (T9 (S9 s) s (pos + wd s pos) 1 c r true q) :=
  step_of (Base.cx_ok bB3_ok 10).1 progOk.mixed [] 200 [true, true, true] [] (l := [(ch s pos == 36 && st == 0) = true, true = true, pos < s.length]) (by kernel_rfl) ⟨h1, rfl, hp, trivial⟩ (by kernel_rfl) (by kernel_rfl)

set_option maxRecDepth 100000 in
theorem p_second (hp : pos < s.length) (h1 : (ch s pos == 36 && st == 0) = false) (h2 : (ch s pos == 36 && st == 2) = true) : Step X10 c9 (T9 (S9 s) s pos st c r p q) .normal (T9 (S9 s) s (pos + wd s pos) 3 c r p true) :=
  step_of (Base.cx_ok bB3_ok 10).1 progOk.mixed [] 200 [true, true, false, true] [] (l := [(ch s pos == 36 && st == 2) = true, (ch s pos == 36 && st == 0) = false, true = true, pos < s.length]) (by kernel_rfl) ⟨h2, h1, rfl, hp, trivial⟩ (by kernel_rfl) (by kernel_rfl)

set_option maxRecDepth 100000 in
theorem p_letter (hp : pos < s.length) (h1 : (ch s pos == 36 && st == 0) = false) (h2 : (ch s pos == 36 && st == 2) = false) (h3 : (alfI (ch s pos) && decide (st ≤ 2)) = true) :
    Step X10 c9 (T9 (S9 s) s pos st c r p q) .normal (T9 (S9 s) s (pos + wd s pos) 2 (if rawCol c (ch s pos) < 1048576 then rawCol c (ch s pos) else 1048576) r p q) :=
  step_of (Base.cx_ok bB3_ok 10).1 progOk.mixed [] 200 [true, true, false, false, true] [] (l := [(alfI (ch s pos) && decide (st ≤ 2)) = true, (ch s pos == 36 && st == 2) = false, (ch s pos == 36 && st == 0) = false, true = true, pos < s.length]) (by kernel_rfl) ⟨h3, h2, h1, rfl, hp, trivial⟩ (by kernel_rfl) (by kernel_rfl)

set_option maxRecDepth 100000 in
theorem p_digit (hp : pos < s.length) (h1 : (ch s pos == 36 && st == 0) = false) (h2 : (ch s pos == 36 && st == 2) = false) (h3 : (alfI (ch s pos) && decide (st ≤ 2)) = false) (h4 : ((digI (ch s pos) && decide (st ≥ 2)) && (st == 4 || ch s pos != 48)) = true) :
    Step X10 c9 (T9 (S9 s) s pos st c r p q) .normal (T9 (S9 s) s (pos + wd s pos) 4 c (if rawRow r (ch s pos) < 1048576 then rawRow r (ch s pos) else 1048576) p q) :=
  step_of (Base.cx_ok bB3_ok 10).1 progOk.mixed [] 200 [true, true, false, false, false, true] [] (l := [((digI (ch s pos) && decide (st ≥ 2)) && (st == 4 || ch s pos != 48)) = true, (alfI (ch s pos) && decide (st ≤ 2)) = false, (ch s pos == 36 && st == 2) = false, (ch s pos == 36 && st == 0) = false, true = true, pos < s.length]) (by kernel_rfl)
    ⟨h4, h3, h2, h1, rfl, hp, trivial⟩ (by kernel_rfl) (by kernel_rfl)

set_option maxRecDepth 100000 in
theorem p_bad (hp : pos < s.length) (h1 : (ch s pos == 36 && st == 0) = false) (h2 : (ch s pos == 36 && st == 2) = false) (h3 : (alfI (ch s pos) && decide (st ≤ 2)) = false) (h4 : ((digI (ch s pos) && decide (st ≥ 2)) && (st == 4 || ch s pos != 48)) = false) :
    Step X10 c9 (T9 (S9 s) s pos st c r p q) .ret (R9 (S9 s)) :=
  step_of (Base.cx_ok bB3_ok 10).1 progOk.mixed [] 200 [true, true, false, false, false, false] [] (l := [((digI (ch s pos) && decide (st ≥ 2)) && (st == 4 || ch s pos != 48)) = false, (alfI (ch s pos) && decide (st ≤ 2)) = false, (ch s pos == 36 && st == 2) = false, (ch s pos == 36 && st == 0) = false, true = true, pos < s.length]) (by kernel_rfl)
    ⟨h4, h3, h2, h1, rfl, hp, trivial⟩ (by kernel_rfl) (by kernel_rfl)

set_option maxRecDepth 100000 in
theorem p_end (hp : ¬ pos < s.length) : Step X10 c9 (T9 (S9 s) s pos st c r p q) (.exit 0) (T9 (S9 s) s pos st c r p q) :=
  step_of (Base.cx_ok bB3_ok 10).1 progOk.mixed [] 200 [false] [] (l := [pos < s.length → False]) (by kernel_rfl) ⟨hp, trivial⟩ (by kernel_rfl) (by kernel_rfl)
end

theorem rawLow_eq : ∀ n : Nat, isLet n = true → rawLow n = lowN n := by
  have h : ∀ n : Nat, n < 123 → (isLet n = true → rawLow n = lowN n) := by decide +kernel
  intro n hn
  refine h n ?_ hn
  unfold isLet at hn
  simp at hn
  omega

theorem alfI_eq (n : Nat) : alfI (n : Int) = isLet n := by
  unfold alfI isLet
  congr 1 <;> congr 1 <;> (apply decide_eq_decide.2; omega)
theorem digI_eq (n : Nat) : digI (n : Int) = isDig n := by
  unfold digI isDig
  congr 1 <;> (apply decide_eq_decide.2; omega)

def okPS (x : PS) : Prop := 0 ≤ x.c ∧ x.c ≤ 1048576 ∧ 0 ≤ x.r ∧ x.r ≤ 1048576

theorem ite_min (x : Int) : (if x < 1048576 then x else 1048576) = minM x := rfl

/-- One rune. -/
theorem p_step (s : List UInt8) (pos : Nat) (x : PS) (hp : pos < s.length) (ho : okPS x) :
    (∀ y, pstep (Utf8.decode ⟨⟨s⟩⟩ pos).1 x = some y → okPS y ∧ Step X10 c9 (T9 (S9 s) s pos x.st x.c x.r x.p x.q) .normal (T9 (S9 s) s (pos + wd s pos) y.st y.c y.r y.p y.q)) ∧
    (pstep (Utf8.decode ⟨⟨s⟩⟩ pos).1 x = none → Step X10 c9 (T9 (S9 s) s pos x.st x.c x.r x.p x.q) .ret (R9 (S9 s))) := by
  obtain ⟨st, c, r, p, q⟩ := x
  obtain ⟨o1, o2, o3, o4⟩ := ho
  simp only at o1 o2 o3 o4
  unfold pstep
  have hch : ch s pos = ((Utf8.decode ⟨⟨s⟩⟩ pos).1 : Int) := rfl
  have e36 : ∀ k : Int, (ch s pos == 36 && st == k) = true ↔ ((Utf8.decode ⟨⟨s⟩⟩ pos).1 = 36 ∧ st = k) := fun k => by
    simp only [Bool.and_eq_true, beq_iff_eq]
    rw [hch]
    constructor
    · rintro ⟨h1, h2⟩; exact ⟨by omega, h2⟩
    · rintro ⟨h1, h2⟩; exact ⟨by omega, h2⟩
  have eL : (alfI (ch s pos) && decide (st ≤ 2)) = true ↔ (isLet (Utf8.decode ⟨⟨s⟩⟩ pos).1 = true ∧ st ≤ 2) := by rw [alfI_eq]; simp
  have eD : ((digI (ch s pos) && decide (st ≥ 2)) && (st == 4 || ch s pos != 48)) = true ↔ (isDig (Utf8.decode ⟨⟨s⟩⟩ pos).1 = true ∧ 2 ≤ st ∧ (st = 4 ∨ (Utf8.decode ⟨⟨s⟩⟩ pos).1 ≠ 48)) := by
    rw [digI_eq]
    simp only [Bool.and_eq_true, Bool.or_eq_true, decide_eq_true_eq, beq_iff_eq, bne_iff_ne, and_assoc]
    constructor
    · rintro ⟨a, b, c⟩; exact ⟨a, b, by omega⟩
    · rintro ⟨a, b, c⟩; exact ⟨a, b, by omega⟩
  by_cases h1 : (Utf8.decode ⟨⟨s⟩⟩ pos).1 = 36 ∧ st = 0
  · simp only [if_pos h1]
    refine ⟨fun y hy => ?_, fun h => by cases h⟩
    cases hy
    exact ⟨⟨o1, o2, o3, o4⟩, p_mark s pos st c r p q hp ((e36 0).2 h1)⟩
  · have f1 : (ch s pos == 36 && st == 0) = false := Bool.eq_false_iff.2 fun h => h1 ((e36 0).1 h)
    simp only [if_neg h1]
    by_cases h2 : (Utf8.decode ⟨⟨s⟩⟩ pos).1 = 36 ∧ st = 2
    · simp only [if_pos h2]
      refine ⟨fun y hy => ?_, fun h => by cases h⟩
      cases hy
      exact ⟨⟨o1, o2, o3, o4⟩, p_second s pos st c r p q hp f1 ((e36 2).2 h2)⟩
    · have f2 : (ch s pos == 36 && st == 2) = false := Bool.eq_false_iff.2 fun h => h2 ((e36 2).1 h)
      simp only [if_neg h2]
      by_cases h3 : isLet (Utf8.decode ⟨⟨s⟩⟩ pos).1 = true ∧ st ≤ 2
      · simp only [if_pos h3]
        refine ⟨fun y hy => ?_, fun h => by cases h⟩
        cases hy
        have hlow : lowN (Utf8.decode ⟨⟨s⟩⟩ pos).1 ≤ 25 := by
          have := h3.1
          unfold isLet at this
          unfold lowN
          simp at this
          split <;> omega
        have hc : rawCol c (ch s pos) = 26 * c + lowN (Utf8.decode ⟨⟨s⟩⟩ pos).1 + 1 := by
          unfold rawCol
          rw [rawLow_eq _ h3.1, wrapS (n := 26 * c) (by omega) (by omega), wrapS (n := 26 * c + _) (by omega) (by omega), wrapS (by omega) (by omega)]
        have := p_letter s pos st c r p q hp f1 f2 (eL.2 h3)
        rw [hc, ite_min] at this
        exact ⟨⟨by have := minM_ge (x := 26 * c + lowN (Utf8.decode ⟨⟨s⟩⟩ pos).1 + 1) (k := 0) (by omega) (by omega); exact this, minM_le _, o3, o4⟩, this⟩
      · have f3 : (alfI (ch s pos) && decide (st ≤ 2)) = false := Bool.eq_false_iff.2 fun h => h3 (eL.1 h)
        simp only [if_neg h3]
        by_cases h4 : isDig (Utf8.decode ⟨⟨s⟩⟩ pos).1 = true ∧ 2 ≤ st ∧ (st = 4 ∨ (Utf8.decode ⟨⟨s⟩⟩ pos).1 ≠ 48)
        · simp only [if_pos h4]
          refine ⟨fun y hy => ?_, fun h => by cases h⟩
          cases hy
          have hd := h4.1
          unfold isDig at hd
          simp only [Bool.and_eq_true, decide_eq_true_eq] at hd
          have hr : rawRow r (ch s pos) = 10 * r + (ch s pos - 48) := by
            unfold rawRow
            rw [wrap32 (by omega) (by omega), wrapS (n := ch s pos - 48) (by omega) (by omega), wrapS (n := 10 * r) (by omega) (by omega), wrapS (by omega) (by omega)]
          have := p_digit s pos st c r p q hp f1 f2 f3 (eD.2 h4)
          rw [hr, ite_min] at this
          exact ⟨⟨o1, o2, by have := minM_ge (x := 10 * r + (ch s pos - 48)) (k := 0) (by omega) (by omega); exact this, minM_le _⟩, this⟩
        · have f4 : ((digI (ch s pos) && decide (st ≥ 2)) && (st == 4 || ch s pos != 48)) = false := Bool.eq_false_iff.2 fun h => h4 (eD.1 h)
          simp only [if_neg h4]
          exact ⟨fun y hy => (by cases hy), fun _ => p_bad s pos st c r p q hp f1 f2 f3 f4⟩

/-- As the bytes say. -/
theorem dec_step (s : List UInt8) (pos : Nat) (hp : pos < s.length) (x : PS) : pstep (Utf8.decode ⟨⟨s⟩⟩ pos).1 x = pstep s[pos].toNat x ∧ (s[pos].toNat < 128 → wd s pos = 1) := by
  by_cases hb : s[pos].toNat < 128
  · have := dec_ascii hp hb
    exact ⟨by rw [this], fun _ => by show (Utf8.decode ⟨⟨s⟩⟩ pos).2 = 1; rw [this]⟩
  · exact ⟨by rw [pstep_high (dec_high hp hb), pstep_high (by omega)], fun h => absurd h hb⟩

theorem drop_at (s : List UInt8) (pos : Nat) (hp : pos < s.length) : s.drop pos = s[pos] :: s.drop (pos + 1) := by
  rw [List.drop_eq_getElem_cons hp]

structure P9 where
  pos : Nat
  x : PS

theorem loop9_ok (s : List UInt8) (y : PS) (i : P9) (hi : i.pos ≤ s.length ∧ okPS i.x ∧ prun (s.drop i.pos) i.x = some y) :
    LoopTo X10 c9 (T9 (S9 s) s i.pos i.x.st i.x.c i.x.r i.x.p i.x.q) (.exit 0) (T9 (S9 s) s s.length y.st y.c y.r y.p y.q) := by
  refine loop_of (fun i : P9 => T9 (S9 s) s i.pos i.x.st i.x.c i.x.r i.x.p i.x.q) (fun i => s.length - i.pos) (fun i => i.pos ≤ s.length ∧ okPS i.x ∧ prun (s.drop i.pos) i.x = some y) (by intro e; cases e) (fun i hi => ?_) i hi
  obtain ⟨pos, x⟩ := i
  obtain ⟨h1, h2, h3⟩ := hi
  simp only at h1 h2 h3 ⊢
  by_cases hp : pos < s.length
  · left
    rw [drop_at s pos hp] at h3
    simp only [prun] at h3
    obtain ⟨e1, e2⟩ := dec_step s pos hp x
    split at h3
    · rename_i z hz
      obtain ⟨g1, g2⟩ := (p_step s pos x hp h2).1 z (by rw [e1]; exact hz)
      have hb : s[pos].toNat < 128 := by
        rcases Nat.lt_or_ge s[pos].toNat 128 with h | h
        · exact h
        · rw [pstep_high h] at hz; cases hz
      rw [e2 hb] at g2
      exact ⟨⟨pos + 1, z⟩, ⟨by simp only; omega, g1, h3⟩, by simp only; omega, g2⟩
    · cases h3
  · right
    have : pos = s.length := by omega
    subst this
    rw [List.drop_length] at h3
    simp only [prun] at h3
    have e : x = y := Option.some.inj h3
    subst e
    exact p_end s s.length _ _ _ _ _ (by omega)

theorem loop9_bad (s : List UInt8) (i : P9) (hi : i.pos ≤ s.length ∧ okPS i.x ∧ prun (s.drop i.pos) i.x = none) :
    LoopTo X10 c9 (T9 (S9 s) s i.pos i.x.st i.x.c i.x.r i.x.p i.x.q) .ret (R9 (S9 s)) := by
  refine loop_of (fun i : P9 => T9 (S9 s) s i.pos i.x.st i.x.c i.x.r i.x.p i.x.q) (fun i => s.length - i.pos) (fun i => i.pos ≤ s.length ∧ okPS i.x ∧ prun (s.drop i.pos) i.x = none) (by intro e; cases e) (fun i hi => ?_) i hi
  obtain ⟨pos, x⟩ := i
  obtain ⟨h1, h2, h3⟩ := hi
  simp only at h1 h2 h3 ⊢
  by_cases hp : pos < s.length
  · rw [drop_at s pos hp] at h3
    simp only [prun] at h3
    obtain ⟨e1, e2⟩ := dec_step s pos hp x
    split at h3
    · left
      rename_i z hz
      obtain ⟨g1, g2⟩ := (p_step s pos x hp h2).1 z (by rw [e1]; exact hz)
      have hb : s[pos].toNat < 128 := by
        rcases Nat.lt_or_ge s[pos].toNat 128 with h | h
        · exact h
        · rw [pstep_high h] at hz; cases hz
      rw [e2 hb] at g2
      exact ⟨⟨pos + 1, z⟩, ⟨by simp only; omega, g1, h3⟩, by simp only; omega, g2⟩
    · right
      rename_i hz
      exact (p_step s pos x hp h2).2 (by rw [e1]; exact hz)
  · have : pos = s.length := by omega
    subst this
    rw [List.drop_length] at h3
    simp only [prun] at h3
    cases h3

def vParse (x : PR) : Value := .tuple ⟨[vRef x.c x.r x.p x.q, vi x.e]⟩

set_option maxRecDepth 100000 in
/-- addr.Parse. -/
theorem parse_pure (s : List UInt8) : Pure Tryd.prog J0 9 [.string ⟨⟨s⟩⟩] (vParse (parseS s)) := by
  have ok0 : okPS ⟨0, 0, 0, false, false⟩ := by unfold okPS; decide
  unfold parseS
  cases h : prun s ⟨0, 0, 0, false, false⟩ with
  | none =>
    have hL : LoopTo X10 c9 (S9 s) .ret (R9 (S9 s)) := loop_into' (loop9_bad s ⟨0, ⟨0, 0, 0, false, false⟩⟩ ⟨Nat.zero_le _, ok0, h⟩) [] (by kernel_rfl) (by kernel_rfl) (by kernel_rfl)
    exact pure_of bB3_ok 10 [told .ret (fun S => R9 S)] [] (l := [LoopTo X10 c9 (S9 s) .ret (R9 (S9 s))]) (by kernel_rfl) ⟨hL, trivial⟩
  | some y =>
    obtain ⟨st, c, r, p, q⟩ := y
    have hL : LoopTo X10 c9 (S9 s) (.exit 0) (T9 (S9 s) s s.length st c r p q) := loop_into' (loop9_ok s ⟨st, c, r, p, q⟩ ⟨0, ⟨0, 0, 0, false, false⟩⟩ ⟨Nat.zero_le _, ok0, h⟩) [] (by kernel_rfl) (by kernel_rfl) (by kernel_rfl)
    unfold finish
    by_cases h4 : st = 4
    · simp only [if_pos h4]
      have e4 : (st != 4) = false := by simp [h4]
      cases hv : validB c r
      · rw [if_neg (by simp)]
        exact pure_of bB3_ok 10 [told (.exit 0) (fun S => T9 S s s.length st c r p q)] [false, true] (l := [(!validB c r) = true, (st != 4) = false, LoopTo X10 c9 (S9 s) (.exit 0) (T9 (S9 s) s s.length st c r p q)]) (by kernel_rfl) ⟨by rw [hv]; rfl, e4, hL, trivial⟩
      · rw [if_pos rfl]
        exact pure_of bB3_ok 10 [told (.exit 0) (fun S => T9 S s s.length st c r p q)] [false, false] (l := [(!validB c r) = false, (st != 4) = false, LoopTo X10 c9 (S9 s) (.exit 0) (T9 (S9 s) s s.length st c r p q)]) (by kernel_rfl) ⟨by rw [hv]; rfl, e4, hL, trivial⟩
    · simp only [if_neg h4]
      have e4 : (st != 4) = true := by simp [h4]
      exact pure_of bB3_ok 10 [told (.exit 0) (fun S => T9 S s s.length st c r p q)] [true] (l := [(st != 4) = true, LoopTo X10 c9 (S9 s) (.exit 0) (T9 (S9 s) s s.length st c r p q)]) (by kernel_rfl) ⟨e4, hL, trivial⟩

end Go.Proofs.YthclpocignpfhaaDoor
