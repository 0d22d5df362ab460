/-
  Layer 14 (values): how numbers and texts stand, in the program and in the reference.
-/
import Derived.Test.YtdapaocfidjihaaGreatDoorVaD
namespace Go.Proofs.YtdapaocfidjihaaGreatDoor
open Go Go.RowKit Ev VaS

theorem partsOrder_pure (x y : Nat) (hx : inU x) (hy : inU y) : Pure Tryz.prog J0 77 [.float .f64 x, .float .f64 y] (vi (cmpI (keyI x) (keyI y))) := by
  unfold cmpI
  by_cases h1 : keyI x < keyI y
  · rw [if_pos h1]
    exact pure_of bV1_ok 3 [] [true] (l := [decide (keyI x < keyI y) = true, inU y, inU x]) (by kernel_rfl) ⟨decide_eq_true h1, hy, hx, trivial⟩
  · rw [if_neg h1]
    by_cases h2 : keyI y < keyI x
    · rw [if_pos h2]
      exact pure_of bV1_ok 3 [] [false, true] (l := [decide (keyI y < keyI x) = true, decide (keyI x < keyI y) = false, inU y, inU x]) (by kernel_rfl) ⟨decide_eq_true h2, decide_eq_false h1, hy, hx, trivial⟩
    · rw [if_neg h2]
      exact pure_of bV1_ok 3 [] [false, false] (l := [decide (keyI y < keyI x) = false, decide (keyI x < keyI y) = false, inU y, inU x]) (by kernel_rfl) ⟨decide_eq_false h2, decide_eq_false h1, hy, hx, trivial⟩

theorem ref01Order_pure (x y : Nat) (hx : inU x) (hy : inU y) : Pure Tryz.prog J0 81 [.int .u64 (Int.ofNat x), .int .u64 (Int.ofNat y)] (vi (cmpI (keyI x) (keyI y))) := by
  unfold cmpI
  by_cases h1 : keyI x < keyI y
  · rw [if_pos h1]
    exact pure_of bV1_ok 3 [] [true] (l := [decide (keyI x < keyI y) = true, inU y, inU x]) (by kernel_rfl) ⟨decide_eq_true h1, hy, hx, trivial⟩
  · rw [if_neg h1]
    by_cases h2 : keyI y < keyI x
    · rw [if_pos h2]
      exact pure_of bV1_ok 3 [] [false, true] (l := [decide (keyI y < keyI x) = true, decide (keyI x < keyI y) = false, inU y, inU x]) (by kernel_rfl) ⟨decide_eq_true h2, decide_eq_false h1, hy, hx, trivial⟩
    · rw [if_neg h2]
      exact pure_of bV1_ok 3 [] [false, false] (l := [decide (keyI y < keyI x) = false, decide (keyI x < keyI y) = false, inU y, inU x]) (by kernel_rfl) ⟨decide_eq_false h2, decide_eq_false h1, hy, hx, trivial⟩

theorem bits_pure (x : Nat) (hx : inU x) : Pure Tryz.prog J0 75 [.float .f64 x] (.int .u64 (Int.ofNat (oneX x))) :=
  pure_of bV1_ok 3 [] [] (l := [inU x]) (by kernel_rfl) ⟨hx, trivial⟩

theorem stringsCompare_pure (x y : List UInt8) : Pure Tryz.prog J0 78 [.string ⟨⟨x⟩⟩, .string ⟨⟨y⟩⟩] (vi (Lib.compareBytes x y)) :=
  pure_of bV1_ok 4 [] [] (l := []) (by kernel_rfl) trivial

/-! The reference's comparison of texts, byte by byte. -/

noncomputable def XV1 : Cx := bV1.cx 10
noncomputable def cTx : Code := loopAt Tryz.prog 82 0
noncomputable def STx (x y : List UInt8) : St := startAt XV1 200 82 [.string ⟨⟨x⟩⟩, .string ⟨⟨y⟩⟩] J0.tabs Tryz.prog.globals.size []
def TTx (S : St) (x y : List UInt8) (i : Int) : St :=
  match S with
  | ⟨tm, hp, n, _, _, _, rd, mq, b⟩ => ⟨only tm.length [(0, .string ⟨⟨x⟩⟩), (1, .string ⟨⟨y⟩⟩), (5, vi i)], hp, n, [], [], 0, rd, mq, b⟩
def RTx (S : St) (r : Int) : St :=
  match S with
  | ⟨tm, hp, n, _, _, _, rd, mq, b⟩ => ⟨only tm.length [(4, vi r)], hp, n, [], [], 0, rd, mq, b⟩

abbrev byT (s : List UInt8) (i : Int) : Int := (bytesAt ⟨⟨s⟩⟩ i.toNat : Int)
abbrev inT (s : List UInt8) (i : Int) : Prop := 0 ≤ i ∧ i.toNat < s.length
def bothT (x y : List UInt8) (i : Int) : Bool := match decide (i < (x.length : Int)) with | true => decide (i < (y.length : Int)) | false => false

section
variable (x y : List UInt8) (i : Int)
set_option maxRecDepth 100000 in
theorem tx_more (hx : inT x i) (hy : inT y i) (hb : bothT x y i = true) (he : (byT x i != byT y i) = false) : Step XV1 cTx (TTx (STx x y) x y i) .normal (TTx (STx x y) x y (IntKind.i64.wrap (i + 1))) :=
  step_of (Base.cx_ok bV1_ok 10).1 progOk.mixed [] 200 [true, false] [] (l := [(byT x i != byT y i) = false, inT y i, inT x i, bothT x y i = true]) (by kernel_rfl) ⟨he, hy, hx, hb, trivial⟩ (by kernel_rfl) (by kernel_rfl)

set_option maxRecDepth 100000 in
theorem tx_diff (hx : inT x i) (hy : inT y i) (hb : bothT x y i = true) (he : (byT x i != byT y i) = true) : Step XV1 cTx (TTx (STx x y) x y i) .ret (RTx (STx x y) (cmpI (IntKind.i64.wrap (byT x i)) (IntKind.i64.wrap (byT y i)))) :=
  step_of (Base.cx_ok bV1_ok 10).1 progOk.mixed [] 200 [true, true] [] (l := [inT y i, inT x i, (byT x i != byT y i) = true, inT y i, inT x i, bothT x y i = true]) (by kernel_rfl) ⟨hy, hx, he, hy, hx, hb, trivial⟩ (by kernel_rfl) (by kernel_rfl)

set_option maxRecDepth 100000 in
theorem tx_out (hb : bothT x y i = false) : Step XV1 cTx (TTx (STx x y) x y i) (.exit 0) (TTx (STx x y) x y i) :=
  step_of (Base.cx_ok bV1_ok 10).1 progOk.mixed [] 200 [false] [] (l := [bothT x y i = false]) (by kernel_rfl) ⟨hb, trivial⟩ (by kernel_rfl) (by kernel_rfl)
end

/-- How many bytes at the beginning are alike. -/
def lcp : List UInt8 → List UInt8 → Nat
  | a :: l1, b :: m1 => if a = b then lcp l1 m1 + 1 else 0
  | _, _ => 0

theorem lcp_le : ∀ x y : List UInt8, lcp x y ≤ x.length ∧ lcp x y ≤ y.length
  | [], _ => by simp [lcp]
  | _ :: _, [] => by simp [lcp]
  | a :: l1, b :: m1 => by
    have := lcp_le l1 m1
    simp only [lcp, List.length_cons]
    split <;> omega

theorem lcp_same : ∀ (x y : List UInt8) (i : Nat), i < lcp x y → x.getD i 0 = y.getD i 0
  | [], _, i, h => by simp [lcp] at h
  | _ :: _, [], i, h => by simp [lcp] at h
  | a :: l1, b :: m1, i, h => by
    simp only [lcp] at h
    split at h
    · rename_i e
      cases i with
      | zero => simp [e]
      | succ i =>
        have := lcp_same l1 m1 i (by omega)
        simpa using this
    · omega

theorem u8_cmp (a b : UInt8) : (if a < b then (-1 : Int) else if b < a then 1 else 0) = cmpI (a.toNat : Int) (b.toNat : Int) := by
  unfold cmpI
  have e1 : (a < b) ↔ ((a.toNat : Int) < (b.toNat : Int)) := by rw [UInt8.lt_iff_toNat_lt]; omega
  have e2 : (b < a) ↔ ((b.toNat : Int) < (a.toNat : Int)) := by rw [UInt8.lt_iff_toNat_lt]; omega
  simp only [e1, e2]

theorem lcp_end : ∀ (x y : List UInt8), (lcp x y < x.length → lcp x y < y.length → x.getD (lcp x y) 0 ≠ y.getD (lcp x y) 0) ∧
    Lib.compareBytes x y = if lcp x y < x.length ∧ lcp x y < y.length then cmpI ((x.getD (lcp x y) 0).toNat : Int) ((y.getD (lcp x y) 0).toNat : Int) else cmpI (x.length : Int) (y.length : Int)
  | [], [] => by simp [lcp, Lib.compareBytes, cmpI]
  | [], _ :: _ => by simp [lcp, Lib.compareBytes, cmpI]
  | _ :: _, [] => by simp [lcp, Lib.compareBytes, cmpI]; omega
  | a :: l1, b :: m1 => by
    obtain ⟨h1, h2⟩ := lcp_end l1 m1
    by_cases e : a = b
    · subst e
      have e2 : Lib.compareBytes (a :: l1) (a :: m1) = Lib.compareBytes l1 m1 := by
        simp only [Lib.compareBytes]
        have : ¬ a < a := fun h => by have := UInt8.lt_iff_toNat_lt.1 h; omega
        rw [if_neg this, if_neg this]
      have e3 : lcp (a :: l1) (a :: m1) = lcp l1 m1 + 1 := by simp [lcp]
      rw [e2, e3, h2]
      refine ⟨fun g1 g2 => ?_, ?_⟩
      · simp only [List.length_cons] at g1 g2
        simpa using h1 (by omega) (by omega)
      · by_cases c : lcp l1 m1 < l1.length ∧ lcp l1 m1 < m1.length
        · rw [if_pos c, if_pos (by simp only [List.length_cons]; omega)]
          simp
        · rw [if_neg c, if_neg (by simp only [List.length_cons]; omega)]
          simp only [List.length_cons]
          unfold cmpI
          push_cast
          split <;> split <;> (try split) <;> (try split) <;> omega
    · have e3 : lcp (a :: l1) (b :: m1) = 0 := by simp [lcp, e]
      rw [e3]
      refine ⟨fun _ _ => by simpa using e, ?_⟩
      rw [if_pos (by simp only [List.length_cons]; omega)]
      simp only [Lib.compareBytes, List.getD_cons_zero]
      rw [← u8_cmp a b]
      by_cases c1 : a < b
      · rw [if_pos c1, if_pos c1]
      · by_cases c2 : b < a
        · rw [if_neg c1, if_pos c2, if_neg c1, if_pos c2]
        · exfalso
          apply e
          have h1 : ¬ a.toNat < b.toNat := fun h => c1 (UInt8.lt_iff_toNat_lt.2 h)
          have h2 : ¬ b.toNat < a.toNat := fun h => c2 (UInt8.lt_iff_toNat_lt.2 h)
          exact UInt8.toNat_inj.1 (by omega)

theorem wrap_nat {n : Nat} (h : n ≤ 9223372036854775806) : IntKind.i64.wrap ((n : Int) + 1) = ((n + 1 : Nat) : Int) := by
  rw [wrap_id (by omega) (by omega)]
  push_cast
  rfl

theorem byT_nat (s : List UInt8) (i : Nat) : byT s (i : Int) = ((s.getD i 0).toNat : Int) := rfl

/-- The round at i, the first i bytes being alike. -/
theorem tx_round (x y : List UInt8) (hx : x.length ≤ 9223372036854775807) (i : Nat) (hi : i < lcp x y) : Step XV1 cTx (TTx (STx x y) x y (i : Int)) .normal (TTx (STx x y) x y ((i + 1 : Nat) : Int)) := by
  obtain ⟨l1, l2⟩ := lcp_le x y
  have := tx_more x y (i : Int) ⟨by omega, by rw [Int.toNat_natCast]; omega⟩ ⟨by omega, by rw [Int.toNat_natCast]; omega⟩ (by unfold bothT; rw [decide_eq_true (show (i : Int) < (x.length : Int) by omega)]; exact decide_eq_true (by omega)) (by rw [byT_nat, byT_nat, lcp_same x y i hi]; simp)
  rw [wrap_nat (by omega)] at this
  exact this

theorem tx_loop_out (x y : List UInt8) (hx : x.length ≤ 9223372036854775807) (he : ¬ (lcp x y < x.length ∧ lcp x y < y.length)) (i : Nat) (hi : i ≤ lcp x y) :
    LoopTo XV1 cTx (TTx (STx x y) x y (i : Int)) (.exit 0) (TTx (STx x y) x y (lcp x y : Int)) := by
  refine loop_of (fun i : Nat => TTx (STx x y) x y (i : Int)) (fun i => lcp x y - i) (fun i => i ≤ lcp x y) (by intro e; cases e) (fun i hi => ?_) i hi
  by_cases h : i < lcp x y
  · exact .inl ⟨i + 1, h, by omega, tx_round x y hx i h⟩
  · have e : i = lcp x y := by omega
    subst e
    obtain ⟨l1, l2⟩ := lcp_le x y
    refine .inr (tx_out x y _ ?_)
    unfold bothT
    by_cases c : lcp x y < x.length
    · rw [decide_eq_true (show ((lcp x y : Nat) : Int) < (x.length : Int) by omega)]
      exact decide_eq_false (fun h => he ⟨c, by omega⟩)
    · rw [decide_eq_false (show ¬ ((lcp x y : Nat) : Int) < (x.length : Int) by omega)]

theorem tx_loop_diff (x y : List UInt8) (hx : x.length ≤ 9223372036854775807) (h1 : lcp x y < x.length) (h2 : lcp x y < y.length) (i : Nat) (hi : i ≤ lcp x y) :
    LoopTo XV1 cTx (TTx (STx x y) x y (i : Int)) .ret (RTx (STx x y) (Lib.compareBytes x y)) := by
  refine loop_of (fun i : Nat => TTx (STx x y) x y (i : Int)) (fun i => lcp x y - i) (fun i => i ≤ lcp x y) (by intro e; cases e) (fun i hi => ?_) i hi
  by_cases h : i < lcp x y
  · exact .inl ⟨i + 1, h, by omega, tx_round x y hx i h⟩
  · have e : i = lcp x y := by omega
    subst e
    right
    obtain ⟨e1, e2⟩ := lcp_end x y
    have := tx_diff x y (lcp x y : Int) ⟨by omega, by rw [Int.toNat_natCast]; exact h1⟩ ⟨by omega, by rw [Int.toNat_natCast]; exact h2⟩ (by unfold bothT; rw [decide_eq_true (show ((lcp x y : Nat) : Int) < (x.length : Int) by omega)]; exact decide_eq_true (by omega)) (by
      rw [byT_nat, byT_nat]
      have := e1 h1 h2
      simp only [bne_iff_ne, ne_eq]
      intro h
      exact this (UInt8.toNat_inj.1 (by omega)))
    have b1 := UInt8.toNat_lt (x.getD (lcp x y) 0)
    have b2 := UInt8.toNat_lt (y.getD (lcp x y) 0)
    rw [byT_nat, byT_nat, wrap_id (by omega) (by omega), wrap_id (by omega) (by omega)] at this
    rw [e2, if_pos ⟨h1, h2⟩]
    exact this

set_option maxRecDepth 100000 in
theorem texts_pure (x y : List UInt8) (hx : x.length ≤ 9223372036854775807) : Pure Tryz.prog J0 82 [.string ⟨⟨x⟩⟩, .string ⟨⟨y⟩⟩] (vi (Lib.compareBytes x y)) := by
  by_cases h : lcp x y < x.length ∧ lcp x y < y.length
  · have hL : LoopTo XV1 cTx (STx x y) .ret (RTx (STx x y) (Lib.compareBytes x y)) := loop_into' (tx_loop_diff x y hx h.1 h.2 0 (Nat.zero_le _)) [] (by kernel_rfl) (by kernel_rfl) (by kernel_rfl)
    exact pure_of bV1_ok 10 [told .ret (fun S => RTx S (Lib.compareBytes x y))] [] (l := [LoopTo XV1 cTx (STx x y) .ret (RTx (STx x y) (Lib.compareBytes x y))]) (by kernel_rfl) ⟨hL, trivial⟩
  · have hL : LoopTo XV1 cTx (STx x y) (.exit 0) (TTx (STx x y) x y (lcp x y : Int)) := loop_into' (tx_loop_out x y hx h 0 (Nat.zero_le _)) [] (by kernel_rfl) (by kernel_rfl) (by kernel_rfl)
    rw [(lcp_end x y).2, if_neg h]
    exact pure_of bV1_ok 10 [told (.exit 0) (fun S => TTx S x y (lcp x y : Int))] [] (l := [LoopTo XV1 cTx (STx x y) (.exit 0) (TTx (STx x y) x y (lcp x y : Int))]) (by kernel_rfl) ⟨hL, trivial⟩

end Go.Proofs.YtdapaocfidjihaaGreatDoor
