/-
  Layer 10 (addr): the longest beginning that is a cell's text.
-/
import Derived.Test.YthclpocignpfhaaDoorAdV
namespace Go.Proofs.YthclpocignpfhaaDoor
open Go Go.RowKit Ev AdS

def preN (s : List UInt8) : Nat → Nat
  | 0 => 0
  | n + 1 => if (parseS (s.take (n + 1))).e = 0 then n + 1 else preN s n

def preS (s : List UInt8) : Nat := preN s (if 8 < s.length then 8 else s.length)

theorem preN_le (s : List UInt8) : ∀ n, preN s n ≤ n
  | 0 => Nat.le_refl _
  | n + 1 => by
    unfold preN
    split
    · exact Nat.le_refl _
    · have := preN_le s n; omega

/-- the states between two rounds -/
def T13 (S : St) (s : List UInt8) (n : Int) (r : Int) : St :=
  match S with
  | ⟨tm, hp, k, _, _, _, rd, mq, b⟩ => ⟨only tm.length [(0, .string ⟨⟨s⟩⟩), (2, vi r), (3, vi n)], hp, k, [], [], 0, rd, mq, b⟩

noncomputable def S13 (s : List UInt8) : St := startAt XP 200 13 [.string ⟨⟨s⟩⟩] [] 6 []
noncomputable def S14 (s : List UInt8) : St := startAt XP 200 14 [.string ⟨⟨s⟩⟩] [] 6 []
noncomputable def c13 : Code := loopAt Tryd.prog 13 0
noncomputable def c14 : Code := loopAt Tryd.prog 14 0

section
variable (s : List UInt8) (n : Int)

set_option maxRecDepth 100000 in
theorem x_hit (h0 : decide ((0 : Int) < n) = true) (h1 : 0 ≤ n ∧ n ≤ (s.length : Int)) (h2 : ((parseS (s.take n.toNat)).e == 0) = true) : Step XP c13 (T13 (S13 s) s n 0) .ret (T13 (S13 s) s n n) :=
  step_of (Base.cx_ok bP_ok 10).1 progOk.mixed [] 200 [true, true] [] (l := [((parseS (s.take n.toNat)).e == 0) = true, 0 ≤ n ∧ n ≤ (s.length : Int), decide ((0 : Int) < n) = true]) (by kernel_rfl) ⟨h2, h1, h0, trivial⟩ (by kernel_rfl) (by kernel_rfl)
set_option maxRecDepth 100000 in
theorem x_miss (h0 : decide ((0 : Int) < n) = true) (h1 : 0 ≤ n ∧ n ≤ (s.length : Int)) (h2 : ((parseS (s.take n.toNat)).e == 0) = false) : Step XP c13 (T13 (S13 s) s n 0) .normal (T13 (S13 s) s (IntKind.i64.wrap (n - 1)) 0) :=
  step_of (Base.cx_ok bP_ok 10).1 progOk.mixed [] 200 [true, false] [] (l := [((parseS (s.take n.toNat)).e == 0) = false, 0 ≤ n ∧ n ≤ (s.length : Int), decide ((0 : Int) < n) = true]) (by kernel_rfl) ⟨h2, h1, h0, trivial⟩ (by kernel_rfl) (by kernel_rfl)
set_option maxRecDepth 100000 in
theorem x_out (h0 : decide ((0 : Int) < n) = false) : Step XP c13 (T13 (S13 s) s n 0) (.exit 0) (T13 (S13 s) s n 0) :=
  step_of (Base.cx_ok bP_ok 10).1 progOk.mixed [] 200 [false] [] (l := [decide ((0 : Int) < n) = false]) (by kernel_rfl) ⟨h0, trivial⟩ (by kernel_rfl) (by kernel_rfl)

set_option maxRecDepth 100000 in
theorem y_hit (h0 : decide ((0 : Int) < n) = true) (h1 : 0 ≤ n ∧ n ≤ (s.length : Int)) (h2 : ((parseS (s.take n.toNat)).e == 0) = true) (h3 : (s.take n.toNat).length ≤ 9223372036854775807) : Step XP c14 (T13 (S14 s) s n 0) .ret (T13 (S14 s) s n n) :=
  step_of (Base.cx_ok bP_ok 10).1 progOk.mixed [] 200 [true, true] [] (l := [((parseS (s.take n.toNat)).e == 0) = true, (s.take n.toNat).length ≤ 9223372036854775807, 0 ≤ n ∧ n ≤ (s.length : Int), decide ((0 : Int) < n) = true]) (by kernel_rfl) ⟨h2, h3, h1, h0, trivial⟩ (by kernel_rfl) (by kernel_rfl)
set_option maxRecDepth 100000 in
theorem y_miss (h0 : decide ((0 : Int) < n) = true) (h1 : 0 ≤ n ∧ n ≤ (s.length : Int)) (h2 : ((parseS (s.take n.toNat)).e == 0) = false) (h3 : (s.take n.toNat).length ≤ 9223372036854775807) : Step XP c14 (T13 (S14 s) s n 0) .normal (T13 (S14 s) s (IntKind.i64.wrap (n - 1)) 0) :=
  step_of (Base.cx_ok bP_ok 10).1 progOk.mixed [] 200 [true, false] [] (l := [((parseS (s.take n.toNat)).e == 0) = false, (s.take n.toNat).length ≤ 9223372036854775807, 0 ≤ n ∧ n ≤ (s.length : Int), decide ((0 : Int) < n) = true]) (by kernel_rfl) ⟨h2, h3, h1, h0, trivial⟩ (by kernel_rfl) (by kernel_rfl)
set_option maxRecDepth 100000 in
theorem y_out (h0 : decide ((0 : Int) < n) = false) : Step XP c14 (T13 (S14 s) s n 0) (.exit 0) (T13 (S14 s) s n 0) :=
  step_of (Base.cx_ok bP_ok 10).1 progOk.mixed [] 200 [false] [] (l := [decide ((0 : Int) < n) = false]) (by kernel_rfl) ⟨h0, trivial⟩ (by kernel_rfl) (by kernel_rfl)
end

/-- Down from n: one loop for both. -/
theorem pre_loop {c : Code} {S : St} (s : List UInt8) (hs : s.length ≤ 9223372036854775807)
    (hit : ∀ n : Int, decide ((0 : Int) < n) = true → 0 ≤ n ∧ n ≤ (s.length : Int) → ((parseS (s.take n.toNat)).e == 0) = true → (s.take n.toNat).length ≤ 9223372036854775807 → Step XP c (T13 S s n 0) .ret (T13 S s n n))
    (miss : ∀ n : Int, decide ((0 : Int) < n) = true → 0 ≤ n ∧ n ≤ (s.length : Int) → ((parseS (s.take n.toNat)).e == 0) = false → (s.take n.toNat).length ≤ 9223372036854775807 → Step XP c (T13 S s n 0) .normal (T13 S s (IntKind.i64.wrap (n - 1)) 0))
    (out : ∀ n : Int, decide ((0 : Int) < n) = false → Step XP c (T13 S s n 0) (.exit 0) (T13 S s n 0)) (n : Nat) (hn : n ≤ s.length) :
    (∀ r, preN s n = r + 1 → LoopTo XP c (T13 S s n 0) .ret (T13 S s (r + 1 : Nat) (r + 1 : Nat))) ∧ (preN s n = 0 → LoopTo XP c (T13 S s n 0) (.exit 0) (T13 S s 0 0)) := by
  have hlen : ∀ k : Nat, (s.take k).length ≤ 9223372036854775807 := fun k => by rw [List.length_take]; omega
  have step : ∀ m : Nat, m + 1 ≤ s.length → (parseS (s.take (m + 1))).e ≠ 0 → Step XP c (T13 S s (m + 1 : Nat) 0) .normal (T13 S s (m : Nat) 0) := fun m hm he => by
    have := miss ((m + 1 : Nat) : Int) (decide_eq_true (by omega)) ⟨by omega, by omega⟩ (by rw [Int.toNat_natCast]; simpa using he) (by rw [Int.toNat_natCast]; exact hlen _)
    rw [show IntKind.i64.wrap (((m + 1 : Nat) : Int) - 1) = (m : Int) by rw [wrapS (by omega) (by omega)]; omega] at this
    exact this
  refine ⟨fun r hr => ?_, fun h0 => ?_⟩
  · refine loop_of (fun n : Nat => T13 S s n 0) (fun n => n) (fun n => n ≤ s.length ∧ preN s n = r + 1) (by intro e; cases e) (fun n hi => ?_) n ⟨hn, hr⟩
    obtain ⟨h1, h2⟩ := hi
    cases n with
    | zero => cases h2
    | succ m =>
      unfold preN at h2
      split at h2
      · rename_i he
        right
        have em : m = r := by omega
        subst em
        exact hit ((m + 1 : Nat) : Int) (decide_eq_true (by omega)) ⟨by omega, by omega⟩ (by rw [Int.toNat_natCast]; simpa using he) (by rw [Int.toNat_natCast]; exact hlen _)
      · rename_i he
        exact .inl ⟨m, ⟨by omega, h2⟩, by omega, step m h1 he⟩
  · refine loop_of (fun n : Nat => T13 S s n 0) (fun n => n) (fun n => n ≤ s.length ∧ preN s n = 0) (by intro e; cases e) (fun n hi => ?_) n ⟨hn, h0⟩
    obtain ⟨h1, h2⟩ := hi
    cases n with
    | zero => exact .inr (out ((0 : Nat) : Int) (decide_eq_false (by omega)))
    | succ m =>
      unfold preN at h2
      split at h2
      · cases h2
      · rename_i he
        exact .inl ⟨m, ⟨by omega, h2⟩, by omega, step m h1 he⟩

theorem min8 (s : List UInt8) : (if (8 : Int) < (s.length : Int) then (8 : Int) else (s.length : Int)) = ((if 8 < s.length then 8 else s.length : Nat) : Int) := by
  split <;> split <;> omega

set_option maxRecDepth 100000 in
theorem prefix_pure (s : List UInt8) (hs : s.length ≤ 9223372036854775807) : Pure Tryd.prog J0 13 [.string ⟨⟨s⟩⟩] (vi (preS s)) := by
  obtain ⟨h1, h2⟩ := pre_loop s hs (fun n a b c _ => x_hit s n a b c) (fun n a b c _ => x_miss s n a b c) (fun n a => x_out s n a) (if 8 < s.length then 8 else s.length) (by split <;> omega)
  unfold preS
  rw [← min8] at h1 h2
  cases hr : preN s (if 8 < s.length then 8 else s.length) with
  | zero =>
    have hL : LoopTo XP c13 (S13 s) (.exit 0) (T13 (S13 s) s 0 0) := loop_into' (h2 hr) [] (by kernel_rfl) (by kernel_rfl) (by kernel_rfl)
    exact pure_of bP_ok 10 [told (.exit 0) (fun S => T13 S s 0 0)] [] (l := [LoopTo XP c13 (S13 s) (.exit 0) (T13 (S13 s) s 0 0)]) (by kernel_rfl) ⟨hL, trivial⟩
  | succ r =>
    have hL : LoopTo XP c13 (S13 s) .ret (T13 (S13 s) s (r + 1 : Nat) (r + 1 : Nat)) := loop_into' (h1 r hr) [] (by kernel_rfl) (by kernel_rfl) (by kernel_rfl)
    exact pure_of bP_ok 10 [told .ret (fun S => T13 S s (r + 1 : Nat) (r + 1 : Nat))] [] (l := [LoopTo XP c13 (S13 s) .ret (T13 (S13 s) s (r + 1 : Nat) (r + 1 : Nat))]) (by kernel_rfl) ⟨hL, trivial⟩

set_option maxRecDepth 100000 in
theorem rprefix_pure (s : List UInt8) (hs : s.length ≤ 9223372036854775807) : Pure Tryd.prog J0 14 [.string ⟨⟨s⟩⟩] (vi (preS s)) := by
  obtain ⟨h1, h2⟩ := pre_loop s hs (fun n a b c d => y_hit s n a b c d) (fun n a b c d => y_miss s n a b c d) (fun n a => y_out s n a) (if 8 < s.length then 8 else s.length) (by split <;> omega)
  unfold preS
  rw [← min8] at h1 h2
  cases hr : preN s (if 8 < s.length then 8 else s.length) with
  | zero =>
    have hL : LoopTo XP c14 (S14 s) (.exit 0) (T13 (S14 s) s 0 0) := loop_into' (h2 hr) [] (by kernel_rfl) (by kernel_rfl) (by kernel_rfl)
    exact pure_of bP_ok 10 [told (.exit 0) (fun S => T13 S s 0 0)] [] (l := [LoopTo XP c14 (S14 s) (.exit 0) (T13 (S14 s) s 0 0)]) (by kernel_rfl) ⟨hL, trivial⟩
  | succ r =>
    have hL : LoopTo XP c14 (S14 s) .ret (T13 (S14 s) s (r + 1 : Nat) (r + 1 : Nat)) := loop_into' (h1 r hr) [] (by kernel_rfl) (by kernel_rfl) (by kernel_rfl)
    exact pure_of bP_ok 10 [told .ret (fun S => T13 S s (r + 1 : Nat) (r + 1 : Nat))] [] (l := [LoopTo XP c14 (S14 s) .ret (T13 (S14 s) s (r + 1 : Nat) (r + 1 : Nat))]) (by kernel_rfl) ⟨hL, trivial⟩

end Go.Proofs.YthclpocignpfhaaDoor
