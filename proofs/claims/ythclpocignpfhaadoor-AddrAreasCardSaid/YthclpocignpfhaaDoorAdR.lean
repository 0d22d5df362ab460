/-
  Layer 10 (addr): the reference's form of a text: two loops over bytes.
-/
import Derived.Test.YthclpocignpfhaaDoorAdQ
namespace Go.Proofs.YthclpocignpfhaaDoor
open Go Go.RowKit Ev AdS

/-- The state in which a function comes to a later loop. -/
def startL (X : Cx) (L : Hints) (fuel f : Nat) (args : List Value) (H : Heap) (n : Nat) (ds : List Bool) : St :=
  match X.P.funcs[f]? with
  | some fn => match fn.body with
    | some c => match evCode X (L ++ [fun s => some (.exit 1000000, s)]) fuel c ⟨args.map .v ++ List.replicate (fn.ntmps - args.length) (.v undef), H, n, ds, [], 0, none, [], n⟩ with
      | some (_, s) => s.core
      | none => ⟨[], [], 0, [], [], 0, none, [], 0⟩
    | none => ⟨[], [], 0, [], [], 0, none, [], 0⟩
  | none => ⟨[], [], 0, [], [], 0, none, [], 0⟩

noncomputable def c38a : Code := loopAt Tryd.prog 38 0
noncomputable def c38b : Code := loopAt Tryd.prog 38 1

/-- the states between two rounds of the first loop -/
def T38a (S : St) (s : List UInt8) (i : Int) (col : Bool) (word : List UInt8) : St :=
  match S with
  | ⟨tm, hp, n, _, _, _, rd, mq, b⟩ => ⟨only tm.length [(0, .string ⟨⟨s⟩⟩), (2, .string ⟨⟨[]⟩⟩), (3, .string ⟨⟨[]⟩⟩), (4, .bool false), (5, .bool false), (6, .bool false), (7, vi i), (8, .bool col), (9, .string ⟨⟨word⟩⟩)],
     hp, n, [], [], 0, rd, mq, b⟩
/-- of the second -/
def T38b (S : St) (s : List UInt8) (i : Int) (col : Bool) (word : List UInt8) (row : Bool) (fr : Int) : St :=
  match S with
  | ⟨tm, hp, n, _, _, _, rd, mq, b⟩ => ⟨only tm.length [(0, .string ⟨⟨s⟩⟩), (2, .string ⟨⟨[]⟩⟩), (3, .string ⟨⟨[]⟩⟩), (4, .bool false), (5, .bool false), (6, .bool false), (7, vi i), (8, .bool col), (9, .string ⟨⟨word⟩⟩), (11, .bool row), (12, vi fr)],
     hp, n, [], [], 0, rd, mq, b⟩

noncomputable def S38 (s : List UInt8) (cb : Bool) : St := startAt X10 200 38 [.string ⟨⟨s⟩⟩] [] 6 [cb]

abbrev byI (s : List UInt8) (i : Int) : Int := (bytesAt ⟨⟨s⟩⟩ i.toNat : Int)
abbrev ltI (s : List UInt8) (i : Int) : Bool := decide (i < (s.length : Int))
def condA (s : List UInt8) (i : Int) : Bool := ltI s i && ((decide (byI s i ≥ 65) && decide (byI s i ≤ 90)) || (decide (byI s i ≥ 97) && decide (byI s i ≤ 122)))
def condB (s : List UInt8) (i : Int) : Bool := (ltI s i && decide (byI s i ≥ 48)) && decide (byI s i ≤ 57)
abbrev inR (s : List UInt8) (i : Int) : Prop := 0 ≤ i ∧ i.toNat < s.length

/-- what the guarded operations of the first loop's test ask -/
def obA (s : List UInt8) (i : Int) : List Prop :=
  [condP [(20, decide (byI s i ≥ 97)), (15, (decide (byI s i ≥ 65) && decide (byI s i ≤ 90))), (9, decide (byI s i ≥ 65)), (4, ltI s i)] [(20, true), (15, false), (4, true)] → inR s i,
   condP [(15, (decide (byI s i ≥ 65) && decide (byI s i ≤ 90))), (9, decide (byI s i ≥ 65)), (4, ltI s i)] [(15, false), (4, true)] → inR s i,
   condP [(9, decide (byI s i ≥ 65)), (4, ltI s i)] [(9, true), (4, true)] → inR s i,
   condP [(4, ltI s i)] [(4, true)] → inR s i]
def obB (s : List UInt8) (i : Int) : List Prop :=
  [condP [(10, (ltI s i && decide (byI s i ≥ 48))), (4, ltI s i)] [(10, true)] → inR s i,
   condP [(4, ltI s i)] [(4, true)] → inR s i]

theorem inR_of {s : List UInt8} {i : Int} (h0 : 0 ≤ i) (h : ltI s i = true) : inR s i := by
  have := of_decide_eq_true h
  exact ⟨h0, by omega⟩

theorem obA_ok {s : List UInt8} {i : Int} (h0 : 0 ≤ i) : allP (obA s i) := by
  refine ⟨fun h => inR_of h0 h.2.2, fun h => inR_of h0 h.2, fun h => inR_of h0 h.2, fun h => inR_of h0 h, trivial⟩
theorem obB_ok {s : List UInt8} {i : Int} (h0 : 0 ≤ i) : allP (obB s i) := by
  refine ⟨fun h => inR_of h0 ?_, fun h => inR_of h0 h, trivial⟩
  have h : (ltI s i && decide (byI s i ≥ 48)) = true := h
  simp only [Bool.and_eq_true] at h
  exact h.1

section
variable (s : List UInt8) (cb : Bool) (i : Int) (col : Bool) (word : List UInt8)

set_option maxRecDepth 100000 in
theorem f_small (h0 : inR s i) (hc : condA s i = true) (hl : word.length + 1 ≤ 9223372036854775807) (hb : decide (97 ≤ byI s i) = true) :
    Step X10 c38a (T38a (S38 s cb) s i col word) .normal (T38a (S38 s cb) s (IntKind.i64.wrap (i + 1)) col (word ++ [UInt8.ofNat (IntKind.u8.wrap (byI s i - 32)).toNat])) := by
  cases cb
  · exact step_of (Base.cx_ok bB3_ok 10).1 progOk.mixed [] 200 [true, true] [] (l := (word.length + 1 ≤ 9223372036854775807) :: (decide (97 ≤ byI s i) = true) :: inR s i :: (condA s i = true) :: obA s i) (by kernel_rfl) ⟨hl, hb, h0, hc, obA_ok h0.1⟩ (by kernel_rfl) (by kernel_rfl)
  · exact step_of (Base.cx_ok bB3_ok 10).1 progOk.mixed [] 200 [true, true] [] (l := (word.length + 1 ≤ 9223372036854775807) :: (decide (97 ≤ byI s i) = true) :: inR s i :: (condA s i = true) :: obA s i) (by kernel_rfl) ⟨hl, hb, h0, hc, obA_ok h0.1⟩ (by kernel_rfl) (by kernel_rfl)

set_option maxRecDepth 100000 in
theorem f_great (h0 : inR s i) (hc : condA s i = true) (hl : word.length + 1 ≤ 9223372036854775807) (hb : decide (97 ≤ byI s i) = false) :
    Step X10 c38a (T38a (S38 s cb) s i col word) .normal (T38a (S38 s cb) s (IntKind.i64.wrap (i + 1)) col (word ++ [UInt8.ofNat (byI s i).toNat])) := by
  cases cb
  · exact step_of (Base.cx_ok bB3_ok 10).1 progOk.mixed [] 200 [true, false] [] (l := (word.length + 1 ≤ 9223372036854775807) :: (decide (97 ≤ byI s i) = false) :: inR s i :: (condA s i = true) :: obA s i) (by kernel_rfl) ⟨hl, hb, h0, hc, obA_ok h0.1⟩ (by kernel_rfl) (by kernel_rfl)
  · exact step_of (Base.cx_ok bB3_ok 10).1 progOk.mixed [] 200 [true, false] [] (l := (word.length + 1 ≤ 9223372036854775807) :: (decide (97 ≤ byI s i) = false) :: inR s i :: (condA s i = true) :: obA s i) (by kernel_rfl) ⟨hl, hb, h0, hc, obA_ok h0.1⟩ (by kernel_rfl) (by kernel_rfl)

set_option maxRecDepth 100000 in
theorem f_out (h0 : 0 ≤ i) (hc : condA s i = false) : Step X10 c38a (T38a (S38 s cb) s i col word) (.exit 0) (T38a (S38 s cb) s i col word) := by
  cases cb
  · exact step_of (Base.cx_ok bB3_ok 10).1 progOk.mixed [] 200 [false] [] (l := (condA s i = false) :: obA s i) (by kernel_rfl) ⟨hc, obA_ok h0⟩ (by kernel_rfl) (by kernel_rfl)
  · exact step_of (Base.cx_ok bB3_ok 10).1 progOk.mixed [] 200 [false] [] (l := (condA s i = false) :: obA s i) (by kernel_rfl) ⟨hc, obA_ok h0⟩ (by kernel_rfl) (by kernel_rfl)
end

/-- A letter as a capital. -/
def upB (b : UInt8) : UInt8 := if 97 ≤ b.toNat then UInt8.ofNat (b.toNat - 32) else b

theorem byI_at {s : List UInt8} {i : Nat} (h : i < s.length) : byI s (i : Int) = (s[i].toNat : Int) := by
  unfold byI bytesAt
  simp [List.getD, h]

theorem condA_iff {s : List UInt8} {i : Nat} (h : i < s.length) : condA s (i : Int) = isLet s[i].toNat := by
  unfold condA
  rw [byI_at h, show ltI s (i : Int) = true from decide_eq_true (by omega), Bool.true_and]
  exact alfI_eq _
theorem condA_end {s : List UInt8} {i : Nat} (h : ¬ i < s.length) : condA s (i : Int) = false := by
  unfold condA
  rw [show ltI s (i : Int) = false from decide_eq_false (by omega), Bool.false_and]

theorem letW_cons {b : UInt8} {l : List UInt8} : letW (b :: l) = if isLet b.toNat then b :: letW l else [] := by
  unfold letW
  rw [List.takeWhile_cons]
theorem digW_cons {b : UInt8} {l : List UInt8} : digW (b :: l) = if isDig b.toNat then b :: digW l else [] := by
  unfold digW
  rw [List.takeWhile_cons]

structure F38 where
  i : Nat
  word : List UInt8

/-- The first loop. -/
theorem loop38a (s : List UInt8) (cb : Bool) (hs : s.length ≤ 9223372036854775807) (col : Bool) (k : Nat) (W : List UInt8) (i : F38) (hi : i.i ≤ s.length ∧ i.word.length ≤ i.i ∧ i.i + (letW (s.drop i.i)).length = k ∧ i.word ++ (letW (s.drop i.i)).map upB = W) :
    LoopTo X10 c38a (T38a (S38 s cb) s i.i col i.word) (.exit 0) (T38a (S38 s cb) s k col W) := by
  refine loop_of (fun i : F38 => T38a (S38 s cb) s i.i col i.word) (fun i => s.length - i.i) (fun i => i.i ≤ s.length ∧ i.word.length ≤ i.i ∧ i.i + (letW (s.drop i.i)).length = k ∧ i.word ++ (letW (s.drop i.i)).map upB = W) (by intro e; cases e) (fun i hi => ?_) i hi
  obtain ⟨i, word⟩ := i
  obtain ⟨h1, h2, h3, h4⟩ := hi
  simp only at h1 h2 h3 h4 ⊢
  by_cases hp : i < s.length
  · have hc := condA_iff hp
    have hd := drop_at s i hp
    rw [hd, letW_cons] at h3 h4
    have hw : IntKind.i64.wrap ((i : Int) + 1) = ((i + 1 : Nat) : Int) := by rw [wrapS (by omega) (by omega)]; omega
    cases hlet : isLet s[i].toNat
    · right
      rw [hlet] at h3 h4 hc
      simp only [Bool.false_eq_true, if_false, List.length_nil, List.map_nil, List.append_nil, Nat.add_zero] at h3 h4
      subst h3 h4
      exact f_out s cb i col word (by omega) hc
    · left
      rw [hlet] at h3 h4 hc
      simp only [if_true, List.length_cons, List.map_cons] at h3 h4
      have hlt : s[i].toNat < 123 := by
        unfold isLet at hlet; simp at hlet; omega
      refine ⟨⟨i + 1, word ++ [upB s[i]]⟩, ⟨by simp only; omega, by simp; omega, by simp only; omega, by simp only [List.append_assoc, List.singleton_append]; exact h4⟩, by simp only; omega, ?_⟩
      have hin : inR s i := ⟨by omega, by simpa using hp⟩
      cases hb : decide (97 ≤ byI s (i : Int))
      · have := f_great s cb i col word hin hc (by omega) hb
        rw [hw, byI_at hp] at this
        rw [byI_at hp] at hb
        have hb := of_decide_eq_false hb
        have e : upB s[i] = UInt8.ofNat ((s[i].toNat : Int)).toNat := by unfold upB; rw [if_neg (by omega)]; simp
        rw [e]; exact this
      · have := f_small s cb i col word hin hc (by omega) hb
        rw [hw, byI_at hp] at this
        rw [byI_at hp] at hb
        have hb := of_decide_eq_true hb
        have e : upB s[i] = UInt8.ofNat (IntKind.u8.wrap ((s[i].toNat : Int) - 32)).toNat := by
          unfold upB
          rw [if_pos (by omega)]
          have : (IntKind.u8.wrap ((s[i].toNat : Int) - 32)).toNat = s[i].toNat - 32 := by
            unfold IntKind.wrap
            simp [IntKind.bits, IntKind.signed]
            omega
          rw [this]
        rw [e]; exact this
  · right
    have : i = s.length := by omega
    subst this
    rw [List.drop_length] at h3 h4
    simp only [letW, List.takeWhile_nil, List.length_nil, List.map_nil, List.append_nil, Nat.add_zero] at h3 h4
    subst h3 h4
    exact f_out s cb s.length col word (by omega) (condA_end (by omega))

noncomputable def S38b (s : List UInt8) (cb rb : Bool) (k : Int) (col : Bool) (W : List UInt8) : St := startL X10 [told (.exit 0) (fun S => T38a S s k col W)] 200 38 [.string ⟨⟨s⟩⟩] [] 6 [cb, rb]

section
variable (s : List UInt8) (cb rb : Bool) (k : Int) (col : Bool) (W : List UInt8) (i : Int) (row : Bool) (fr : Int)

set_option maxRecDepth 100000 in
theorem g_next (h0 : 0 ≤ i) (hc : condB s i = true) : Step X10 c38b (T38b (S38b s cb rb k col W) s i col W row fr) .normal (T38b (S38b s cb rb k col W) s (IntKind.i64.wrap (i + 1)) col W row fr) := by
  cases cb <;> cases rb <;> exact step_of (Base.cx_ok bB3_ok 10).1 progOk.mixed [] 200 [true] [] (l := (condB s i = true) :: obB s i) (by kernel_rfl) ⟨hc, obB_ok h0⟩ (by kernel_rfl) (by kernel_rfl)

set_option maxRecDepth 100000 in
theorem g_out (h0 : 0 ≤ i) (hc : condB s i = false) : Step X10 c38b (T38b (S38b s cb rb k col W) s i col W row fr) (.exit 2) (T38b (S38b s cb rb k col W) s i col W row fr) := by
  cases cb <;> cases rb <;> exact step_of (Base.cx_ok bB3_ok 10).1 progOk.mixed [] 200 [false] [] (l := (condB s i = false) :: obB s i) (by kernel_rfl) ⟨hc, obB_ok h0⟩ (by kernel_rfl) (by kernel_rfl)
end

theorem condB_iff {s : List UInt8} {i : Nat} (h : i < s.length) : condB s (i : Int) = isDig s[i].toNat := by
  unfold condB
  rw [byI_at h, show ltI s (i : Int) = true from decide_eq_true (by omega), Bool.true_and]
  exact digI_eq _
theorem condB_end {s : List UInt8} {i : Nat} (h : ¬ i < s.length) : condB s (i : Int) = false := by
  unfold condB
  rw [show ltI s (i : Int) = false from decide_eq_false (by omega)]
  rfl

/-- The second loop. -/
theorem loop38b (s : List UInt8) (cb rb : Bool) (hs : s.length ≤ 9223372036854775807) (k : Int) (col : Bool) (W : List UInt8) (row : Bool) (fr : Int) (j : Nat) (i : Nat) (hi : i ≤ s.length ∧ i + (digW (s.drop i)).length = j) :
    LoopTo X10 c38b (T38b (S38b s cb rb k col W) s i col W row fr) (.exit 2) (T38b (S38b s cb rb k col W) s j col W row fr) := by
  refine loop_of (fun i : Nat => T38b (S38b s cb rb k col W) s i col W row fr) (fun i => s.length - i) (fun i => i ≤ s.length ∧ i + (digW (s.drop i)).length = j) (by intro e; cases e) (fun i hi => ?_) i hi
  obtain ⟨h1, h3⟩ := hi
  by_cases hp : i < s.length
  · have hc := condB_iff hp
    rw [drop_at s i hp, digW_cons] at h3
    have hw : IntKind.i64.wrap ((i : Int) + 1) = ((i + 1 : Nat) : Int) := by rw [wrapS (by omega) (by omega)]; omega
    cases hlet : isDig s[i].toNat
    · right
      rw [hlet] at h3 hc
      simp only [Bool.false_eq_true, if_false, List.length_nil, Nat.add_zero] at h3
      subst h3
      exact g_out s cb rb k col W i row fr (by omega) hc
    · left
      rw [hlet] at h3 hc
      simp only [if_true, List.length_cons] at h3
      have := g_next s cb rb k col W i row fr (by omega) hc
      rw [hw] at this
      exact ⟨i + 1, ⟨by omega, by omega⟩, by omega, this⟩
  · right
    have : i = s.length := by omega
    subst this
    rw [List.drop_length] at h3
    simp only [digW, List.takeWhile_nil, List.length_nil, Nat.add_zero] at h3
    subst h3
    exact g_out s cb rb k col W s.length row fr (by omega) (condB_end (by omega))

end Go.Proofs.YthclpocignpfhaaDoor
