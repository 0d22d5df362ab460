/-
  Several texts in one (merge.py): NcA, NcB.
-/
import Derived.Test.YtaopinmjgjpiiaaGreatDoorNbF
import Derived.Lib.IndexBytes

/-
  What a bare text is, by its structure: the longest one at a text's beginning, its digits.
-/
namespace Go.Proofs.YtaopinmjgjpiiaaGreatDoor
open Go Go.RowKit Ev

def dgB (b : Int) (c : UInt8) : Bool := decide (worthV (Int.ofNat c.toNat) < b)
/-- How long the digits are with at most one point (none, if s). -/
def lenSeg (b : Int) : List UInt8 → Bool → Nat
  | [], _ => 0
  | c :: r, s => if dgB b c = true then lenSeg b r s + 1 else if c = 46 ∧ s = false then lenSeg b r true + 1 else 0
def segOK (b : Int) : List UInt8 → Bool → Bool
  | [], _ => true
  | c :: r, s => if c = 46 ∧ s = false then segOK b r true else if dgB b c = true then segOK b r s else false
/-- The digits. -/
def segD (b : Int) : List UInt8 → Bool → List UInt8
  | [], _ => []
  | c :: r, s => if dgB b c = true then c :: segD b r s else if c = 46 ∧ s = false then segD b r true else []
/-- The point's place. -/
def idxP (b : Int) : List UInt8 → Option Nat
  | [] => none
  | c :: r => if dgB b c = true then (idxP b r).map (· + 1) else if c = 46 then some 0 else none

theorem dot_dg {b : Int} (hb : b ≤ 16) : dgB b 46 = false := by
  unfold dgB
  have h : worthV (Int.ofNat (46 : UInt8).toNat) = 16 := by decide
  rw [h]
  exact decide_eq_false (by omega)

theorem seg_le {b : Int} (hb : b ≤ 16) : ∀ (r : List UInt8) (s : Bool) (n : Nat), n ≤ r.length → (segOK b (r.take n) s = true ↔ n ≤ lenSeg b r s)
  | [], s, n, h => by
    obtain rfl : n = 0 := by simpa using h
    simp [segOK]
  | c :: r, s, 0, h => by simp [segOK]
  | c :: r, s, n + 1, h => by
    have ih := fun s => seg_le hb r s n (by simpa using h)
    rw [List.take_succ_cons]
    unfold segOK lenSeg
    by_cases h1 : c = 46 ∧ s = false
    · have : dgB b c = false := by rw [h1.1]; exact dot_dg hb
      rw [if_pos h1, this, if_neg (by simp), if_pos h1, ih]
      omega
    · rw [if_neg h1]
      by_cases h2 : dgB b c = true
      · rw [if_pos h2, if_pos h2, ih]; omega
      · rw [if_neg h2, if_neg h2, if_neg h1]; simp
theorem lenSeg_le (b : Int) : ∀ (r : List UInt8) (s : Bool), lenSeg b r s ≤ r.length
  | [], _ => Nat.le_refl _
  | c :: r, s => by
    have h1 := lenSeg_le b r s
    have h2 := lenSeg_le b r true
    unfold lenSeg
    rw [List.length_cons]
    split
    · omega
    split <;> omega

theorem drop_at {t : List UInt8} {k : Nat} (h : k < t.length) : t.drop k = t.getD k 0 :: t.drop (k + 1) := by
  rw [List.drop_eq_getElem_cons h]
  simp [List.getD, List.getElem?_eq_getElem h]
theorem dot_iff {t : List UInt8} {k : Nat} {p : Int} : dotB t (k : Int) p = true ↔ t.getD k 0 = 46 ∧ (!decide (p < 0)) = false := by
  unfold dotB
  have : (chI t (k : Int) == 46) = decide (t.getD k 0 = 46) := by
    by_cases h : t.getD k 0 = 46
    · rw [decide_eq_true h]
      show (Int.ofNat (t.getD k 0).toNat == 46) = true
      rw [h]; rfl
    · rw [decide_eq_false h]
      refine beq_false_of_ne fun e => h ?_
      have e : ((t.getD k 0).toNat : Int) = 46 := e
      exact UInt8.toNat_inj.1 (show (t.getD k 0).toNat = 46 by omega)
  rw [this]
  by_cases h : t.getD k 0 = 46
  · rw [decide_eq_true h]
    by_cases h2 : p < 0
    · rw [decide_eq_true h2]; exact ⟨fun _ => ⟨h, rfl⟩, fun _ => rfl⟩
    · rw [decide_eq_false h2]; exact ⟨fun e => (by cases e), fun e => (by cases e.2)⟩
  · rw [decide_eq_false h]
    exact ⟨fun e => (by cases e), fun e => absurd e.1 h⟩

theorem mg_eq {b : Int} (t : List UInt8) : ∀ (f k : Nat) (p : Int), k + f = t.length → (maGo t b f k p).2 = k + lenSeg b (t.drop k) (!decide (p < 0))
  | 0, k, p, h => by
    rw [List.drop_of_length_le (by omega)]; rfl
  | f + 1, k, p, h => by
    have hk : k < t.length := by omega
    rw [drop_at hk]
    unfold maGo lenSeg
    by_cases h1 : worthV (chI t (k : Int)) < b
    · rw [if_pos h1, if_pos (show dgB b (t.getD k 0) = true from decide_eq_true h1), mg_eq t f (k + 1) p (by omega)]
      omega
    · rw [if_neg h1, if_neg (show ¬dgB b (t.getD k 0) = true from fun e => h1 (of_decide_eq_true e))]
      by_cases h2 : dotB t (k : Int) p = true
      · rw [if_pos h2, if_pos (dot_iff.1 h2), mg_eq t f (k + 1) (k : Int) (by omega), decide_eq_false (show ¬((k : Int) < 0) by omega)]
        simp only [Bool.not_false]
        omega
      · rw [if_neg h2, if_neg (fun e => h2 (dot_iff.2 e))]
        rfl
theorem mg_p {b : Int} (t : List UInt8) : ∀ (f k : Nat) (p : Int), 0 ≤ p → (maGo t b f k p).1 = p
  | 0, k, p, _ => rfl
  | f + 1, k, p, h => by
    unfold maGo
    split
    · exact mg_p t f (k + 1) p h
    · rw [if_neg]
      intro e
      have := (dot_iff.1 e).2
      rw [decide_eq_false (show ¬(p < 0) by omega)] at this
      cases this
theorem mg_1 {b : Int} (t : List UInt8) : ∀ (f k : Nat), k + f = t.length → (maGo t b f k (-1)).1 = match idxP b (t.drop k) with
    | none => -1
    | some j => ((k + j : Nat) : Int)
  | 0, k, h => by
    rw [List.drop_of_length_le (by omega)]; rfl
  | f + 1, k, h => by
    have hk : k < t.length := by omega
    rw [drop_at hk]
    unfold maGo idxP
    by_cases h1 : worthV (chI t (k : Int)) < b
    · rw [if_pos h1, if_pos (show dgB b (t.getD k 0) = true from decide_eq_true h1), mg_1 t f (k + 1) (by omega)]
      cases idxP b (t.drop (k + 1)) with
      | none => rfl
      | some j => show ((k + 1 + j : Nat) : Int) = ((k + (j + 1) : Nat) : Int); omega
    · rw [if_neg h1, if_neg (show ¬dgB b (t.getD k 0) = true from fun e => h1 (of_decide_eq_true e))]
      by_cases h2 : dotB t (k : Int) (-1) = true
      · rw [if_pos h2, if_pos (dot_iff.1 h2).1, mg_p t f (k + 1) (k : Int) (by omega)]
        rfl
      · rw [if_neg h2, if_neg (fun e => h2 (dot_iff.2 ⟨e, rfl⟩))]

theorem maE_eq {t : List UInt8} {a : Nat} {b : Int} (ha : a ≤ t.length) : maE t a b = a + lenSeg b (t.drop a) false := by
  unfold maE
  exact mg_eq t (t.length - a) a (-1) (by omega)

/-- The digits, and how many stand behind the point. -/
theorem segD_eq {b : Int} (hb : b ≤ 16) : ∀ (r : List UInt8), segD b r false = match idxP b r with
    | none => r.take (lenSeg b r false)
    | some j => r.take j ++ (r.take (lenSeg b r false)).drop (j + 1)
  | [] => rfl
  | c :: r => by
    unfold segD idxP lenSeg
    by_cases h : dgB b c = true
    · rw [if_pos h, if_pos h, if_pos h, segD_eq hb r]
      cases idxP b r with
      | none => simp
      | some j => simp
    · rw [if_neg h, if_neg h, if_neg h]
      by_cases h2 : c = 46
      · rw [if_pos ⟨h2, rfl⟩, if_pos h2, if_pos ⟨h2, rfl⟩]
        have key : ∀ r : List UInt8, segD b r true = r.take (lenSeg b r true) := fun r => by
          induction r with
          | nil => rfl
          | cons c r ih =>
            unfold segD lenSeg
            by_cases h : dgB b c = true
            · rw [if_pos h, if_pos h, ih]; simp
            · rw [if_neg h, if_neg h]; simp
        simp [key]
      · rw [if_neg (fun e => h2 e.1), if_neg h2, if_neg (fun e => h2 e.1)]
        rfl
theorem idxP_lt {b : Int} : ∀ (r : List UInt8) (j : Nat), idxP b r = some j → j < lenSeg b r false
  | [], j, h => by cases h
  | c :: r, j, h => by
    unfold idxP at h
    unfold lenSeg
    by_cases h1 : dgB b c = true
    · rw [if_pos h1] at h ⊢
      cases h2 : idxP b r with
      | none => rw [h2] at h; cases h
      | some i =>
        rw [h2] at h
        cases h
        have := idxP_lt r i h2
        show i + 1 < _
        omega
    · rw [if_neg h1] at h ⊢
      by_cases h2 : c = 46
      · rw [if_pos h2] at h
        rw [if_pos ⟨h2, rfl⟩]
        cases h
        omega
      · rw [if_neg h2] at h; cases h
theorem maP_eq {t : List UInt8} {a : Nat} {b : Int} (ha : a ≤ t.length) : maP t a b = match idxP b (t.drop a) with
    | none => -1
    | some j => ((a + j : Nat) : Int) := by
  unfold maP
  exact mg_1 t (t.length - a) a (by omega)
theorem take_drop' (t : List UInt8) (a n : Nat) : (t.take (a + n)).drop a = (t.drop a).take n := by
  rw [List.drop_take, Nat.add_sub_cancel_left]
theorem maS_eq {t : List UInt8} {a : Nat} {b : Int} (hb : b ≤ 16) (ha : a ≤ t.length) : maS t a b = segD b (t.drop a) false := by
  unfold maS
  rw [maE_eq ha, maP_eq ha, segD_eq hb]
  cases h : idxP b (t.drop a) with
  | none => simp only [show ((-1 : Int) < 0) from by decide, if_true]; exact take_drop' ..
  | some j =>
    have := idxP_lt _ _ h
    simp only [show ¬(((a + j : Nat) : Int) < 0) from by omega, if_false, Int.toNat_natCast]
    rw [take_drop', show a + j + 1 = a + (j + 1) by omega, ← List.drop_drop, take_drop']
/-- How many digits stand behind the point. -/
def segB (b : Int) (r : List UInt8) : Int := match idxP b r with
  | none => 0
  | some j => (lenSeg b r false : Int) - j - 1
theorem maB_eq {t : List UInt8} {a : Nat} {b : Int} (ha : a ≤ t.length) : maB t a b = segB b (t.drop a) := by
  unfold maB segB
  rw [maE_eq ha, maP_eq ha]
  cases h : idxP b (t.drop a) with
  | none => rfl
  | some j =>
    simp only [show ¬(((a + j : Nat) : Int) < 0) from by omega, if_false]
    omega

/-! The exponent. -/

def cntD : List UInt8 → Nat
  | [] => 0
  | c :: r => if dgB 10 c = true then cntD r + 1 else 0
def sgC (c : UInt8) : Bool := c == 43 || c == 45
def sgN : List UInt8 → Nat
  | [] => 0
  | c :: _ => if sgC c = true then 1 else 0
/-- How long the exponent is, with its letter (0: there is none). -/
def xN (L : List UInt8) : List UInt8 → Nat
  | [] => 0
  | c :: r => if c ∈ L then (if cntD (r.drop (sgN r)) = 0 then 0 else 1 + sgN r + cntD (r.drop (sgN r))) else 0
theorem cntD_le : ∀ (r : List UInt8), cntD r ≤ r.length
  | [] => Nat.le_refl _
  | c :: r => by
    have := cntD_le r
    unfold cntD
    rw [List.length_cons]
    split <;> omega
theorem xg_eq (t : List UInt8) : ∀ (f k : Nat) (n : Int), k + f = t.length → (exGo t f k n).2 = k + cntD (t.drop k)
  | 0, k, n, h => by
    rw [List.drop_of_length_le (by omega)]; rfl
  | f + 1, k, n, h => by
    have hk : k < t.length := by omega
    rw [drop_at hk]
    unfold exGo cntD
    by_cases h1 : worthV (chI t (k : Int)) < 10
    · rw [if_pos h1, if_pos (show dgB 10 (t.getD k 0) = true from decide_eq_true h1), xg_eq t f (k + 1) _ (by omega)]
      omega
    · rw [if_neg h1, if_neg (show ¬dgB 10 (t.getD k 0) = true from fun e => h1 (of_decide_eq_true e))]
      rfl
theorem con_iff (x y c : UInt8) : conB [x, y] [c] = true ↔ c ∈ [x, y] := by
  unfold conB
  rw [Lib.index_one]
  simp only [Lib.indexByte]
  by_cases h1 : x = c
  · subst h1; simp
  · by_cases h2 : y = c
    · subst h2; simp [h1]
    · have h1' : ¬c = x := fun e => h1 e.symm
      have h2' : ¬c = y := fun e => h2 e.symm
      simp [h1, h2, h1', h2']
theorem sg_iff {t : List UInt8} {k : Nat} : sgB t (k : Int) = true ↔ sgN (t.drop k) = 1 := by
  unfold sgB ltE
  by_cases hk : k < t.length
  · rw [decide_eq_true (show (k : Int) < (t.length : Int) by omega), drop_at hk]
    have key : ∀ n : Nat, n < 256 → (chI t (k : Int) == (n : Int)) = (t.getD k 0 == UInt8.ofNat n) := fun n hn => by
      have hc : chI t (k : Int) = ((t.getD k 0).toNat : Int) := rfl
      rw [hc]
      by_cases h : t.getD k 0 = UInt8.ofNat n
      · rw [h]; simp [Nat.mod_eq_of_lt hn]
      · rw [beq_false_of_ne h]
        refine beq_false_of_ne fun e => h ?_
        have e : (t.getD k 0).toNat = n := by omega
        rw [← e]; simp
    have k1 := key 43 (by decide)
    have k2 := key 45 (by decide)
    simp only [sgN, sgC]
    show (match chI t (k : Int) == ((43 : Nat) : Int) with | true => true | false => chI t (k : Int) == ((45 : Nat) : Int)) = true ↔ _
    rw [k1, k2]
    have fin : ∀ x y : Bool, (match x with | true => true | false => y) = true ↔ (if (x || y) = true then 1 else 0) = 1 := by decide
    exact fin _ _
  · rw [decide_eq_false (show ¬((k : Int) < (t.length : Int)) by omega), List.drop_of_length_le (by omega)]
    simp [sgN]
theorem sgN_one (r : List UInt8) : sgN r ≤ 1 := by
  cases r with
  | nil => exact Nat.zero_le _
  | cons c r =>
    show (if sgC c = true then 1 else 0) ≤ 1
    split
    · exact Nat.le_refl _
    · exact Nat.zero_le _
theorem exK_eq (t : List UInt8) (m : Nat) : exK t m = m + 1 + sgN (t.drop (m + 1)) := by
  unfold exK
  by_cases h : sgB t ((m + 1 : Nat) : Int) = true
  · rw [if_pos h, sg_iff.1 h]
  · rw [if_neg h]
    have := sgN_one (t.drop (m + 1))
    have h2 : ¬sgN (t.drop (m + 1)) = 1 := fun e => h (sg_iff.2 e)
    omega
theorem sgN_le (r : List UInt8) : sgN r ≤ r.length := by
  cases r with
  | nil => exact Nat.le_refl _
  | cons c r =>
    have := sgN_one (c :: r)
    rw [List.length_cons]
    omega
theorem exE_eq {t : List UInt8} {x y : UInt8} {m : Nat} (hl : t.length < 9223372036854775807) (hm : m ≤ t.length) : exE t [x, y] m = m + xN [x, y] (t.drop m) := by
  unfold exE hdB geB
  by_cases hk : m < t.length
  · rw [decide_eq_false (show ¬((m : Int) ≥ (t.length : Int)) by omega), drop_at hk]
    have hs : subT t (m : Int) = [t.getD m 0] := by
      unfold subT
      rw [wr (by omega) (by omega), show ((m : Int) + 1).toNat = m + 1 by omega, Int.toNat_natCast, take_drop', drop_at hk]
      rfl
    simp only [hs, xN]
    by_cases hc : t.getD m 0 ∈ [x, y]
    · rw [if_pos hc, (con_iff x y _).2 hc]
      have he : (exR t m).2 = exK t m + cntD ((t.drop (m + 1)).drop (sgN (t.drop (m + 1)))) := by
        have hle := sgN_le (t.drop (m + 1))
        rw [List.length_drop] at hle
        unfold exR
        rw [xg_eq t _ _ 0 (by rw [exK_eq]; omega), exK_eq, List.drop_drop]
      simp only [Bool.not_true, Bool.false_eq_true, if_false]
      rw [he]
      by_cases hz : cntD ((t.drop (m + 1)).drop (sgN (t.drop (m + 1)))) = 0
      · rw [if_pos hz, if_pos (by omega)]; rfl
      · rw [if_neg hz, if_neg (by omega), exK_eq]; omega
    · rw [if_neg hc]
      have : conB [x, y] [t.getD m 0] = false := by
        cases h : conB [x, y] [t.getD m 0] with
        | false => rfl
        | true => exact absurd ((con_iff x y _).1 h) hc
      rw [this]
      rfl
  · rw [decide_eq_true (show (m : Int) ≥ (t.length : Int) by omega), List.drop_of_length_le (by omega)]
    rfl

end Go.Proofs.YtaopinmjgjpiiaaGreatDoor

/-
  The document's bare texts, by their structure; the longest one at a beginning is the program's.
-/
namespace Go.Proofs.YtaopinmjgjpiiaaGreatDoor
open Go Go.RowKit Ev

/-- The place of the first letter. -/
def cutL (L : List UInt8) : List UInt8 → Nat
  | [] => 0
  | c :: r => if c ∈ L then 0 else cutL L r + 1
def whOk (l : List UInt8) : Bool := !(l.drop (sgN l)).isEmpty && (l.drop (sgN l)).all (dgB 10)
def tailOk : List UInt8 → Bool
  | [] => true
  | _ :: w => whOk w
def coreB (b : Int) (L u : List UInt8) : Bool := segOK b (u.take (cutL L u)) false && !(segD b (u.take (cutL L u)) false).isEmpty && tailOk (u.drop (cutL L u))
def coreN (b : Int) (L r : List UInt8) : Nat := lenSeg b r false + xN L (r.drop (lenSeg b r false))

theorem cutL_le (L : List UInt8) : ∀ u, cutL L u ≤ u.length
  | [] => Nat.le_refl _
  | c :: u => by
    have := cutL_le L u
    unfold cutL
    rw [List.length_cons]
    split <;> omega
theorem cut_seg {b : Int} {L : List UInt8} (hL : ∀ c ∈ L, dgB b c = false ∧ c ≠ 46) : ∀ (r : List UInt8) (s : Bool) (n : Nat), n ≤ r.length → lenSeg b r s ≤ n → cutL L (r.take n) = lenSeg b r s + cutL L ((r.drop (lenSeg b r s)).take (n - lenSeg b r s))
  | [], s, n, h, _ => by simp [cutL, lenSeg]
  | c :: r, s, n, h, h2 => by
    unfold lenSeg at h2 ⊢
    by_cases h3 : dgB b c = true
    · rw [if_pos h3] at h2 ⊢
      obtain ⟨m, rfl⟩ : ∃ m, n = m + 1 := ⟨n - 1, by omega⟩
      have ih := cut_seg hL r s m (by simpa using h) (by omega)
      rw [List.take_succ_cons, cutL, if_neg (fun e => by rw [(hL c e).1] at h3; cases h3), ih, List.drop_succ_cons, show m + 1 - (lenSeg b r s + 1) = m - lenSeg b r s by omega]
      omega
    · rw [if_neg h3] at h2 ⊢
      by_cases h4 : c = 46 ∧ s = false
      · rw [if_pos h4] at h2 ⊢
        obtain ⟨m, rfl⟩ : ∃ m, n = m + 1 := ⟨n - 1, by omega⟩
        have ih := cut_seg hL r true m (by simpa using h) (by omega)
        rw [List.take_succ_cons, cutL, if_neg (fun e => (hL c e).2 h4.1), ih, List.drop_succ_cons, show m + 1 - (lenSeg b r true + 1) = m - lenSeg b r true by omega]
        omega
      · rw [if_neg h4]
        simp
theorem cut_low {b : Int} {L : List UInt8} (hL : ∀ c ∈ L, dgB b c = false ∧ c ≠ 46) : ∀ (r : List UInt8) (s : Bool) (n : Nat), n ≤ lenSeg b r s → cutL L (r.take n) = n
  | [], s, n, h => by
    obtain rfl : n = 0 := by simpa [lenSeg] using h
    rfl
  | c :: r, s, 0, h => rfl
  | c :: r, s, n + 1, h => by
    unfold lenSeg at h
    by_cases h3 : dgB b c = true
    · rw [if_pos h3] at h
      rw [List.take_succ_cons, cutL, if_neg (fun e => by rw [(hL c e).1] at h3; cases h3), cut_low hL r s n (by omega)]
    · rw [if_neg h3] at h
      by_cases h4 : c = 46 ∧ s = false
      · rw [if_pos h4] at h
        rw [List.take_succ_cons, cutL, if_neg (fun e => (hL c e).2 h4.1), cut_low hL r true n (by omega)]
      · rw [if_neg h4] at h; omega
theorem segD_none {b : Int} : ∀ (r : List UInt8) (s : Bool) (n : Nat), segD b r s = [] → segD b (r.take n) s = []
  | [], s, n, h => by simp [segD]
  | c :: r, s, 0, h => rfl
  | c :: r, s, n + 1, h => by
    rw [List.take_succ_cons]
    unfold segD at h ⊢
    by_cases h3 : dgB b c = true
    · rw [if_pos h3] at h; cases h
    · rw [if_neg h3] at h ⊢
      by_cases h4 : c = 46 ∧ s = false
      · rw [if_pos h4] at h ⊢
        exact segD_none r true n h
      · rw [if_neg h4]
theorem segD_len {b : Int} : ∀ (r : List UInt8) (s : Bool), segD b (r.take (lenSeg b r s)) s = segD b r s
  | [], s => by simp [segD]
  | c :: r, s => by
    unfold lenSeg
    by_cases h3 : dgB b c = true
    · rw [if_pos h3, List.take_succ_cons, segD, if_pos h3, segD_len r s, segD, if_pos h3]
    · rw [if_neg h3]
      by_cases h4 : c = 46 ∧ s = false
      · rw [if_pos h4, List.take_succ_cons, segD, if_neg h3, if_pos h4, segD_len r true, segD, if_neg h3, if_pos h4]
      · rw [if_neg h4, List.take_zero]
        unfold segD
        rw [if_neg h3, if_neg h4]
theorem cnt_all : ∀ (r : List UInt8) (n : Nat), n ≤ r.length → ((r.take n).all (dgB 10) = true ↔ n ≤ cntD r)
  | [], n, h => by
    obtain rfl : n = 0 := by simpa using h
    simp
  | c :: r, 0, h => by simp
  | c :: r, n + 1, h => by
    have ih := cnt_all r n (by simpa using h)
    rw [List.take_succ_cons, List.all_cons]
    unfold cntD
    by_cases h3 : dgB 10 c = true
    · rw [if_pos h3, h3, Bool.true_and, ih]; omega
    · rw [if_neg h3]
      simp [h3]
theorem sgN_take (r : List UInt8) {m : Nat} (h : 0 < m) : sgN (r.take m) = sgN r := by
  obtain ⟨k, rfl⟩ : ∃ k, m = k + 1 := ⟨m - 1, by omega⟩
  cases r <;> rfl
theorem wh_take (r : List UInt8) (m : Nat) (h : m ≤ r.length) : whOk (r.take m) = true ↔ sgN r < m ∧ m ≤ sgN r + cntD (r.drop (sgN r)) := by
  unfold whOk
  cases m with
  | zero => simp
  | succ k =>
    have hs := sgN_le r
    rw [sgN_take r (by omega), List.drop_take, Bool.and_eq_true]
    by_cases hk : sgN r < k + 1
    · rw [cnt_all _ _ (by rw [List.length_drop]; omega)]
      have hne : ((r.drop (sgN r)).take (k + 1 - sgN r)).isEmpty = false := by
        rw [List.isEmpty_eq_false_iff]
        intro e
        have := congrArg List.length e
        rw [List.length_take, List.length_drop, List.length_nil] at this
        omega
      rw [hne]
      simp only [Bool.not_false, true_and]
      omega
    · have : k + 1 - sgN r = 0 := by omega
      rw [this]
      simp [hk]

theorem core_le {b : Int} {L : List UInt8} (hb : b ≤ 16) (hL : ∀ c ∈ L, dgB b c = false ∧ c ≠ 46) {r : List UInt8} {n : Nat} (hn : n ≤ r.length) (h : coreB b L (r.take n) = true) : n ≤ coreN b L r ∧ segD b r false ≠ [] := by
  unfold coreB at h
  rw [Bool.and_eq_true, Bool.and_eq_true] at h
  obtain ⟨⟨h1, h2⟩, h3⟩ := h
  have hle : cutL L (r.take n) ≤ n := by
    have := cutL_le L (r.take n)
    rw [List.length_take] at this
    omega
  rw [List.take_take, Nat.min_eq_left hle] at h1 h2
  have hne : segD b r false ≠ [] := fun e => by
    rw [segD_none r false _ e] at h2
    simp at h2
  refine ⟨?_, hne⟩
  unfold coreN
  by_cases hE : n ≤ lenSeg b r false
  · omega
  have hc := (seg_le hb r false _ (by omega)).1 h1
  rw [cut_seg hL r false n hn (by omega)] at hc h3
  have hlt : lenSeg b r false < r.length := by omega
  obtain ⟨c, r2, hr⟩ : ∃ c r2, r.drop (lenSeg b r false) = c :: r2 := by
    cases h : r.drop (lenSeg b r false) with
    | nil => have := congrArg List.length h; rw [List.length_drop, List.length_nil] at this; omega
    | cons c r2 => exact ⟨c, r2, rfl⟩
  have hlen : r2.length = r.length - lenSeg b r false - 1 := by
    have := congrArg List.length hr
    rw [List.length_drop, List.length_cons] at this
    omega
  obtain ⟨m, hm⟩ : ∃ m, n - lenSeg b r false = m + 1 := ⟨n - lenSeg b r false - 1, by omega⟩
  rw [hr, hm, List.take_succ_cons] at hc h3
  by_cases hcL : c ∈ L
  · rw [cutL, if_pos hcL, Nat.add_zero, List.drop_take, hr, hm, List.take_succ_cons] at h3
    have hw := (wh_take r2 m (by omega)).1 h3
    rw [hr, xN, if_pos hcL, if_neg (by omega)]
    omega
  · rw [cutL, if_neg hcL] at hc
    omega

theorem xN_cons (L : List UInt8) (c : UInt8) (r : List UInt8) : xN L (c :: r) = if c ∈ L then (if cntD (r.drop (sgN r)) = 0 then 0 else 1 + sgN r + cntD (r.drop (sgN r))) else 0 := rfl
theorem xN_le (L : List UInt8) (r : List UInt8) : xN L r ≤ r.length := by
  cases r with
  | nil => exact Nat.le_refl _
  | cons c r =>
    have h1 := sgN_le r
    have h2 := cntD_le (r.drop (sgN r))
    rw [List.length_drop] at h2
    rw [xN_cons, List.length_cons]
    split
    · split <;> omega
    · omega
theorem coreN_le (b : Int) (L r : List UInt8) : coreN b L r ≤ r.length := by
  have h1 := lenSeg_le b r false
  have h2 := xN_le L (r.drop (lenSeg b r false))
  rw [List.length_drop] at h2
  unfold coreN
  omega
theorem core_at {b : Int} {L : List UInt8} (hb : b ≤ 16) (hL : ∀ c ∈ L, dgB b c = false ∧ c ≠ 46) {r : List UInt8} (h : segD b r false ≠ []) : coreB b L (r.take (coreN b L r)) = true := by
  have hE := lenSeg_le b r false
  have hN := coreN_le b L r
  have hEN : lenSeg b r false ≤ coreN b L r := by unfold coreN; omega
  have key : cutL L (r.take (coreN b L r)) = lenSeg b r false ∧ tailOk ((r.take (coreN b L r)).drop (lenSeg b r false)) = true := by
    rw [cut_seg hL r false _ hN hEN, List.drop_take]
    have e : coreN b L r - lenSeg b r false = xN L (r.drop (lenSeg b r false)) := by unfold coreN; omega
    rw [e]
    cases hr : r.drop (lenSeg b r false) with
    | nil => exact ⟨by simp [cutL], by simp [tailOk]⟩
    | cons c r2 =>
      have hx := xN_le L (c :: r2)
      have hlen := congrArg List.length hr
      rw [List.length_drop, List.length_cons] at hlen
      rw [List.length_cons] at hx
      rw [xN_cons] at hx ⊢
      by_cases hcL : c ∈ L
      · rw [if_pos hcL] at hx ⊢
        by_cases hz : cntD (r2.drop (sgN r2)) = 0
        · rw [if_pos hz]; exact ⟨by simp [cutL], by simp [tailOk]⟩
        · rw [if_neg hz] at hx ⊢
          rw [show 1 + sgN r2 + cntD (r2.drop (sgN r2)) = sgN r2 + cntD (r2.drop (sgN r2)) + 1 by omega, List.take_succ_cons, cutL, if_pos hcL]
          refine ⟨rfl, ?_⟩
          exact (wh_take r2 _ (by omega)).2 ⟨by omega, Nat.le_refl _⟩
      · rw [if_neg hcL]; exact ⟨by simp [cutL], by simp [tailOk]⟩
  unfold coreB
  rw [key.1, key.2, List.take_take, Nat.min_eq_left hEN, (seg_le hb r false _ hE).2 (Nat.le_refl _), segD_len]
  simp [h]

/-! The whole of it. -/

def hxL : List UInt8 → Bool
  | c :: d :: _ => c == 48 && (d == 120 || d == 88)
  | _ => false
def rbOk (t : List UInt8) : Bool := if hxL t = true then coreB 16 pP (t.drop 2) else coreB 10 eE t

theorem eE_dg : ∀ c ∈ eE, dgB 10 c = false ∧ c ≠ 46 := by
  intro c hc
  simp only [List.mem_cons, List.not_mem_nil, or_false] at hc
  rcases hc with rfl | rfl <;> decide
theorem pP_dg : ∀ c ∈ pP, dgB 16 c = false ∧ c ≠ 46 := by
  intro c hc
  simp only [List.mem_cons, List.not_mem_nil, or_false] at hc
  rcases hc with rfl | rfl <;> decide
theorem chI_eq {t : List UInt8} {k n : Nat} (hn : n < 256) : (chI t (k : Int) == (n : Int)) = (t.getD k 0 == UInt8.ofNat n) := by
  have hc : chI t (k : Int) = ((t.getD k 0).toNat : Int) := rfl
  rw [hc]
  by_cases h : t.getD k 0 = UInt8.ofNat n
  · rw [h]; simp [Nat.mod_eq_of_lt hn]
  · rw [beq_false_of_ne h]
    refine beq_false_of_ne fun e => h ?_
    have e : (t.getD k 0).toNat = n := by omega
    rw [← e]; simp
theorem hx_eq (t : List UInt8) : hxB t = hxL t := by
  have k0 := chI_eq (t := t) (k := 0) (n := 48) (by decide)
  have k1 := chI_eq (t := t) (k := 1) (n := 120) (by decide)
  have k2 := chI_eq (t := t) (k := 1) (n := 88) (by decide)
  unfold hxB h0B
  show (match (match decide ((t.length : Int) > 1) with | true => chI t ((0 : Nat) : Int) == ((48 : Nat) : Int) | false => false) with | true => (match chI t ((1 : Nat) : Int) == ((120 : Nat) : Int) with | true => true | false => chI t ((1 : Nat) : Int) == ((88 : Nat) : Int)) | false => false) = _
  rw [k0, k1, k2]
  match t with
  | [] => rfl
  | [c] => rfl
  | c :: d :: r =>
    rw [decide_eq_true (show (((c :: d :: r).length : Nat) : Int) > 1 by rw [List.length_cons, List.length_cons]; omega)]
    show (match c == 48 with | true => (match d == 120 with | true => true | false => d == 88) | false => false) = (c == 48 && (d == 120 || d == 88))
    cases (c == 48) <;> cases (d == 120) <;> cases (d == 88) <;> rfl
theorem hx_cases {t : List UInt8} (h : hxL t = true) : ∃ d r, t = 48 :: d :: r ∧ (d = 120 ∨ d = 88) := by
  match t with
  | [] => cases h
  | [c] => cases h
  | c :: d :: r =>
    unfold hxL at h
    rw [Bool.and_eq_true, Bool.or_eq_true, beq_iff_eq, beq_iff_eq, beq_iff_eq] at h
    obtain ⟨rfl, h⟩ := h
    exact ⟨d, r, rfl, h⟩
theorem hx_take {t : List UInt8} {n : Nat} (h : hxL t = false) : hxL (t.take n) = false := by
  match t, n with
  | [], _ => simp [hxL]
  | _, 0 => simp [hxL]
  | [c], n + 1 => simp [hxL]
  | c :: d :: r, 1 => simp [hxL]
  | c :: d :: r, n + 2 => exact h

theorem exE2_eq {t : List UInt8} {x y : UInt8} {a : Nat} {b : Int} (hl : t.length < 9223372036854775807) (ha : a ≤ t.length) : exE t [x, y] (maE t a b) = a + coreN b [x, y] (t.drop a) := by
  have hE := lenSeg_le b (t.drop a) false
  rw [List.length_drop] at hE
  rw [maE_eq ha, exE_eq hl (by omega), ← List.drop_drop]
  unfold coreN
  omega
theorem bareH_eq {t : List UInt8} (d : UInt8) (r : List UInt8) (h : t = 48 :: d :: r) (hx : hxL t = true) : bareH t = !(segD 16 r false).isEmpty := by
  unfold bareH
  rw [hx_eq, hx, maS_eq (by decide) (by rw [h]; simp), h]
  show (true && !(segD 16 r false == [])) = _
  cases segD 16 r false <;> rfl

/-- How long: by the structure. -/
theorem bareN_hex {t : List UInt8} {d : UInt8} {r : List UInt8} (hl : t.length < 9223372036854775807) (h : t = 48 :: d :: r) (hx : hxL t = true) (hs : segD 16 r false ≠ []) : bareN t = 2 + coreN 16 pP r := by
  unfold bareN
  rw [bareH_eq d r h hx]
  simp only [show (segD 16 r false).isEmpty = false from List.isEmpty_eq_false_iff.2 hs, Bool.not_false, if_true]
  rw [exE2_eq hl (by rw [h]; simp), h]
  rfl
theorem bareN_dec {t : List UInt8} (hl : t.length < 9223372036854775807) (hx : bareH t = false) : bareN t = if segD 10 t false = [] then 0 else coreN 10 eE t := by
  unfold bareN
  rw [hx]
  simp only [Bool.false_eq_true, if_false]
  rw [maS_eq (by decide) (Nat.zero_le _), exE2_eq hl (Nat.zero_le _), List.drop_zero, Nat.zero_add]
theorem bareH_no {t : List UInt8} (hx : hxL t = false) : bareH t = false := by
  unfold bareH
  rw [hx_eq, hx]
  rfl
theorem core_one {d : UInt8} {r : List UInt8} (hd : d = 120 ∨ d = 88) : segD 10 (48 :: d :: r) false ≠ [] ∧ coreN 10 eE (48 :: d :: r) = 1 := by
  have h0 : dgB 10 48 = true := by decide
  have h1 : dgB 10 d = false ∧ d ≠ 46 ∧ d ∉ eE := by
    rcases hd with rfl | rfl <;> decide
  have hl : lenSeg 10 (48 :: d :: r) false = 1 := by
    unfold lenSeg
    rw [if_pos h0]
    unfold lenSeg
    rw [if_neg (by rw [h1.1]; decide), if_neg (fun e => h1.2.1 e.1)]
  refine ⟨?_, ?_⟩
  · unfold segD
    rw [if_pos h0]
    intro e
    cases e
  · unfold coreN
    rw [hl, List.drop_succ_cons, List.drop_zero, xN, if_neg h1.2.2]

theorem bare_le {t : List UInt8} (hl : t.length < 9223372036854775807) {n : Nat} (hn : n ≤ t.length) (h : rbOk (t.take n) = true) : n ≤ bareN t := by
  cases hx : hxL t with
  | false =>
    unfold rbOk at h
    rw [hx_take hx, if_neg (by decide)] at h
    obtain ⟨h1, h2⟩ := core_le (by decide) eE_dg hn h
    rw [bareN_dec hl (bareH_no hx), if_neg h2]
    exact h1
  | true =>
    obtain ⟨d, r, ht, hd⟩ := hx_cases hx
    subst ht
    by_cases hs : segD 16 r false = []
    · have hb : bareH (48 :: d :: r) = false := by rw [bareH_eq d r rfl hx, hs]; rfl
      rw [bareN_dec hl hb, if_neg (core_one hd).1, (core_one hd).2]
      match n, hn, h with
      | 0, _, _ => omega
      | 1, _, _ => omega
      | m + 2, hn, h =>
        unfold rbOk at h
        rw [List.take_succ_cons, List.take_succ_cons, if_pos (show hxL (48 :: d :: r.take m) = true from hx)] at h
        exact absurd hs (core_le (by decide) pP_dg (by simp only [List.length_cons] at hn; omega) h).2
    · rw [bareN_hex hl rfl hx hs]
      match n, hn, h with
      | 0, _, _ => omega
      | 1, _, _ => omega
      | m + 2, hn, h =>
        unfold rbOk at h
        rw [List.take_succ_cons, List.take_succ_cons, if_pos (show hxL (48 :: d :: r.take m) = true from hx)] at h
        have := (core_le (by decide) pP_dg (by simp only [List.length_cons] at hn; omega) h).1
        omega
theorem bare_at {t : List UInt8} (hl : t.length < 9223372036854775807) (h : bareN t ≠ 0) : rbOk (t.take (bareN t)) = true := by
  cases hx : hxL t with
  | false =>
    rw [bareN_dec hl (bareH_no hx)] at h ⊢
    by_cases hs : segD 10 t false = []
    · rw [if_pos hs] at h; exact absurd rfl h
    · rw [if_neg hs]
      unfold rbOk
      rw [hx_take hx, if_neg (by decide)]
      exact core_at (by decide) eE_dg hs
  | true =>
    obtain ⟨d, r, ht, hd⟩ := hx_cases hx
    subst ht
    by_cases hs : segD 16 r false = []
    · have hb : bareH (48 :: d :: r) = false := by rw [bareH_eq d r rfl hx, hs]; rfl
      rw [bareN_dec hl hb, if_neg (core_one hd).1, (core_one hd).2]
      rfl
    · rw [bareN_hex hl rfl hx hs, Nat.add_comm 2, List.take_succ_cons, List.take_succ_cons]
      unfold rbOk
      rw [if_pos (show hxL (48 :: d :: r.take (coreN 16 pP r)) = true from hx)]
      exact core_at (by decide) pP_dg hs
theorem bareN_le {t : List UInt8} (hl : t.length < 9223372036854775807) : bareN t ≤ t.length := by
  cases hx : hxL t with
  | false =>
    rw [bareN_dec hl (bareH_no hx)]
    split
    · omega
    · exact coreN_le _ _ _
  | true =>
    obtain ⟨d, r, ht, hd⟩ := hx_cases hx
    subst ht
    by_cases hs : segD 16 r false = []
    · have hb : bareH (48 :: d :: r) = false := by rw [bareH_eq d r rfl hx, hs]; rfl
      rw [bareN_dec hl hb, if_neg (core_one hd).1]
      exact coreN_le _ _ _
    · rw [bareN_hex hl rfl hx hs]
      have := coreN_le 16 pP r
      simp only [List.length_cons]
      omega

/-! Which bytes can stand in it. -/

def letC (c : UInt8) : Bool := c == 101 || (c == 69 || (c == 112 || c == 80))
def freeC (c : UInt8) : Bool := dgB 16 c || (c == 46 || (c == 120 || (c == 88 || (c == 112 || c == 80))))
def mayV (t : List UInt8) (i : Nat) : Bool := if sgC (t.getD i 0) = true then decide (0 < i) && letC (t.getD (i - 1) 0) else freeC (t.getD i 0)

theorem all_u8 {p : UInt8 → Bool} (h : ∀ i : Fin 256, p (UInt8.ofNat i.val) = true) (c : UInt8) : p c = true := by
  have := h ⟨c.toNat, UInt8.toNat_lt c⟩
  simpa using this
theorem free_sg (c : UInt8) (h : freeC c = true) : sgC c = false := by
  have := all_u8 (p := fun c => !freeC c || !sgC c) (by decide +kernel) c
  rw [h] at this
  simpa using this
theorem let_free (c : UInt8) (h : letC c = true) : freeC c = true := by
  have := all_u8 (p := fun c => !letC c || freeC c) (by decide +kernel) c
  rw [h] at this
  simpa using this
theorem dg_mono {b : Int} (hb : b ≤ 16) {c : UInt8} (h : dgB b c = true) : dgB 16 c = true := by
  have := of_decide_eq_true h
  exact decide_eq_true (by omega)
theorem seg_at {b : Int} (hb : b ≤ 16) : ∀ (r : List UInt8) (s : Bool) (i : Nat), i < lenSeg b r s → freeC (r.getD i 0) = true
  | [], s, i, h => by simp [lenSeg] at h
  | c :: r, s, i, h => by
    unfold lenSeg at h
    by_cases h3 : dgB b c = true
    · rw [if_pos h3] at h
      cases i with
      | zero => show freeC c = true; unfold freeC; rw [dg_mono hb h3]; rfl
      | succ i => exact seg_at hb r s i (by omega)
    · rw [if_neg h3] at h
      by_cases h4 : c = 46 ∧ s = false
      · rw [if_pos h4] at h
        cases i with
        | zero => show freeC c = true; rw [h4.1]; decide
        | succ i => exact seg_at hb r true i (by omega)
      · rw [if_neg h4] at h; omega
theorem cnt_at : ∀ (r : List UInt8) (i : Nat), i < cntD r → freeC (r.getD i 0) = true
  | [], i, h => by simp [cntD] at h
  | c :: r, i, h => by
    unfold cntD at h
    by_cases h3 : dgB 10 c = true
    · rw [if_pos h3] at h
      cases i with
      | zero => show freeC c = true; unfold freeC; rw [dg_mono (by decide) h3]; rfl
      | succ i => exact cnt_at r i (by omega)
    · rw [if_neg h3] at h; omega
theorem getD_drop (r : List UInt8) (a i : Nat) : (r.drop a).getD i 0 = r.getD (a + i) 0 := by
  simp [List.getD, List.getElem?_drop]
theorem core_may {b : Int} {L : List UInt8} (hb : b ≤ 16) (hL : ∀ c ∈ L, letC c = true) {r : List UInt8} {i : Nat} (h : i < coreN b L r) : freeC (r.getD i 0) = true ∨ (0 < i ∧ sgC (r.getD i 0) = true ∧ letC (r.getD (i - 1) 0) = true) := by
  by_cases hE : i < lenSeg b r false
  · exact .inl (seg_at hb r false i hE)
  unfold coreN at h
  cases hr : r.drop (lenSeg b r false) with
  | nil => rw [hr] at h; simp [xN] at h; omega
  | cons c r2 =>
    have h0 : r.getD (lenSeg b r false) 0 = c := by
      have := getD_drop r (lenSeg b r false) 0
      rw [hr, Nat.add_zero] at this
      exact this.symm
    have hj : ∀ j, r.getD (lenSeg b r false + 1 + j) 0 = r2.getD j 0 := fun j => by
      have := getD_drop r (lenSeg b r false) (j + 1)
      rw [hr] at this
      rw [show lenSeg b r false + 1 + j = lenSeg b r false + (j + 1) by omega]
      exact this.symm
    rw [hr] at h
    rw [xN_cons] at h
    by_cases hcL : c ∈ L
    · rw [if_pos hcL] at h
      by_cases hz : cntD (r2.drop (sgN r2)) = 0
      · rw [if_pos hz] at h; omega
      · rw [if_neg hz] at h
        by_cases hi : i = lenSeg b r false
        · refine .inl ?_
          rw [hi, h0]
          exact let_free c (hL c hcL)
        · obtain ⟨j, hjj⟩ : ∃ j, i = lenSeg b r false + 1 + j := ⟨i - lenSeg b r false - 1, by omega⟩
          rw [hjj, hj]
          by_cases hs : j < sgN r2
          · have hj0 : j = 0 := by
              have := sgN_one r2
              omega
            subst hj0
            refine .inr ⟨by omega, ?_, ?_⟩
            · cases r2 with
              | nil => simp [sgN] at hs
              | cons e r3 =>
                show sgC e = true
                by_cases he : sgC e = true
                · exact he
                · rw [show sgN (e :: r3) = 0 from if_neg he] at hs; omega
            · rw [show lenSeg b r false + 1 + 0 - 1 = lenSeg b r false by omega, h0]
              exact hL c hcL
          · refine .inl ?_
            have := cnt_at (r2.drop (sgN r2)) (j - sgN r2) (by omega)
            rw [getD_drop, show sgN r2 + (j - sgN r2) = j by omega] at this
            exact this
    · rw [if_neg hcL] at h; omega
theorem may_of {t : List UInt8} {i : Nat} (h : freeC (t.getD i 0) = true ∨ (0 < i ∧ sgC (t.getD i 0) = true ∧ letC (t.getD (i - 1) 0) = true)) : mayV t i = true := by
  unfold mayV
  rcases h with h | ⟨h1, h2, h3⟩
  · rw [free_sg _ h]; exact h
  · rw [if_pos h2, decide_eq_true h1, h3]; rfl
theorem bare_may {t : List UInt8} (hl : t.length < 9223372036854775807) {i : Nat} (h : i < bareN t) : mayV t i = true := by
  refine may_of ?_
  cases hx : hxL t with
  | false =>
    rw [bareN_dec hl (bareH_no hx)] at h
    split at h
    · omega
    · exact core_may (by decide) (by decide) h
  | true =>
    obtain ⟨d, r, ht, hd⟩ := hx_cases hx
    subst ht
    by_cases hs : segD 16 r false = []
    · have hb : bareH (48 :: d :: r) = false := by rw [bareH_eq d r rfl hx, hs]; rfl
      rw [bareN_dec hl hb, if_neg (core_one hd).1] at h
      exact core_may (by decide) (by decide) h
    · rw [bareN_hex hl rfl hx hs] at h
      match i, h with
      | 0, _ => exact .inl (show freeC 48 = true by decide)
      | 1, _ => exact .inl (show freeC d = true by rcases hd with rfl | rfl <;> decide)
      | j + 2, h =>
        rcases core_may (L := pP) (i := j) (by decide) (by decide) (show j < coreN 16 pP r by omega) with h | ⟨h1, h2, h3⟩
        · exact .inl h
        · refine .inr ⟨by omega, h2, ?_⟩
          obtain ⟨k, rfl⟩ : ∃ k, j = k + 1 := ⟨j - 1, by omega⟩
          exact h3

/-- The document's search for it. -/
def pfGo (t : List UInt8) : Nat → Nat → Nat → Nat
  | 0, _, n => n
  | f + 1, i, n => if mayV t i = true then pfGo t f (i + 1) (if rbOk (t.take (i + 1)) = true then i + 1 else n) else n
theorem pfGo_eq {t : List UInt8} (hl : t.length < 9223372036854775807) : ∀ (f i n : Nat), i + f = t.length → (bareN t ≤ i → n = bareN t) → pfGo t f i n = bareN t
  | 0, i, n, h, hn => hn (by have := bareN_le hl; omega)
  | f + 1, i, n, h, hn => by
    unfold pfGo
    by_cases hm : mayV t i = true
    · rw [if_pos hm]
      refine pfGo_eq hl f (i + 1) _ (by omega) fun hle => ?_
      by_cases hr : rbOk (t.take (i + 1)) = true
      · rw [if_pos hr]
        have := bare_le hl (by omega) hr
        omega
      · rw [if_neg hr]
        refine hn ?_
        by_cases he : bareN t = i + 1
        · refine absurd ?_ hr
          rw [← he]
          exact bare_at hl (by omega)
        · omega
    · rw [if_neg hm]
      refine hn ?_
      by_cases hi : i < bareN t
      · exact absurd (bare_may hl hi) hm
      · omega

end Go.Proofs.YtaopinmjgjpiiaaGreatDoor
