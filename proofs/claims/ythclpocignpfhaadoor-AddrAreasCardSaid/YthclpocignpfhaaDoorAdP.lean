/-
  Layer 10 (addr): the form of a cell's text, read in two ways: as the code's states, and as parts of a text. No program stands here.
-/
import Derived.Test.YthclpocignpfhaaDoorAdS
namespace Go.Proofs.YthclpocignpfhaaDoor.AdS
open Go

def isLet (ch : Nat) : Bool := (decide (65 ≤ ch) && decide (ch ≤ 90)) || (decide (97 ≤ ch) && decide (ch ≤ 122))
def isDig (ch : Nat) : Bool := decide (48 ≤ ch) && decide (ch ≤ 57)
/-- A letter's place, from 0 on. -/
def lowN (ch : Nat) : Nat := if 97 ≤ ch then ch - 97 else ch - 65
def minM (x : Int) : Int := if x < 1048576 then x else 1048576

/-- What has been read. -/
structure PS where
  st : Int
  c : Int
  r : Int
  p : Bool
  q : Bool

def pstep (ch : Nat) (x : PS) : Option PS :=
  if ch = 36 ∧ x.st = 0 then some ⟨1, x.c, x.r, true, x.q⟩
  else if ch = 36 ∧ x.st = 2 then some ⟨3, x.c, x.r, x.p, true⟩
  else if isLet ch = true ∧ x.st ≤ 2 then some ⟨2, minM (26 * x.c + lowN ch + 1), x.r, x.p, x.q⟩
  else if isDig ch = true ∧ 2 ≤ x.st ∧ (x.st = 4 ∨ ch ≠ 48) then some ⟨4, x.c, minM (10 * x.r + ((ch : Int) - 48)), x.p, x.q⟩
  else none

def prun : List UInt8 → PS → Option PS
  | [], x => some x
  | b :: l, x => match pstep b.toNat x with
    | some y => prun l y
    | none => none

theorem pstep_high {ch : Nat} (h : 128 ≤ ch) (x : PS) : pstep ch x = none := by
  unfold pstep isLet isDig
  rw [if_neg (by omega), if_neg (by omega), if_neg (by simp; omega), if_neg (by simp; omega)]

/-- A reading: the cell, what is fixed, the error. -/
structure PR where
  c : Int
  r : Int
  p : Bool
  q : Bool
  e : Int

def errForm : Int := 3
def errAddr : Int := 20

def finish : Option PS → PR
  | none => ⟨0, 0, false, false, errForm⟩
  | some y => if y.st = 4 then (if validB y.c y.r then ⟨y.c, y.r, y.p, y.q, 0⟩ else ⟨0, 0, false, false, errAddr⟩) else ⟨0, 0, false, false, errForm⟩

def parseS (s : List UInt8) : PR := finish (prun s ⟨0, 0, 0, false, false⟩)

/-! The other way: parts. -/

def dolB : List UInt8 → Bool
  | b :: _ => Nat.beq b.toNat 36
  | [] => false
def dolR (l : List UInt8) : List UInt8 := if dolB l then l.tail else l

def letW (l : List UInt8) : List UInt8 := l.takeWhile fun b => isLet b.toNat
def letR (l : List UInt8) : List UInt8 := l.dropWhile fun b => isLet b.toNat
def digW (l : List UInt8) : List UInt8 := l.takeWhile fun b => isDig b.toNat
def digR (l : List UInt8) : List UInt8 := l.dropWhile fun b => isDig b.toNat

def headIs0 : List UInt8 → Bool
  | b :: _ => Nat.beq b.toNat 48
  | [] => false

def colF (w : List UInt8) (c : Int) : Int := w.foldl (fun c b => minM (26 * c + lowN b.toNat + 1)) c
def rowF (w : List UInt8) (r : Int) : Int := w.foldl (fun r b => minM (10 * r + ((b.toNat : Int) - 48))) r

/-- The parts of a text. -/
structure FS where
  w : List UInt8
  d : List UInt8
  p : Bool
  q : Bool
  ok : Bool

def formS (t : List UInt8) : FS :=
  ⟨letW (dolR t), digW (if (letW (dolR t)).isEmpty then letR (dolR t) else dolR (letR (dolR t))), dolB t, !(letW (dolR t)).isEmpty && dolB (letR (dolR t)),
    (digR (if (letW (dolR t)).isEmpty then letR (dolR t) else dolR (letR (dolR t)))).isEmpty && !(letW (dolR t)).isEmpty && !(digW (if (letW (dolR t)).isEmpty then letR (dolR t) else dolR (letR (dolR t)))).isEmpty &&
      !headIs0 (digW (if (letW (dolR t)).isEmpty then letR (dolR t) else dolR (letR (dolR t))))⟩

theorem prun_let : ∀ (w l : List UInt8) (x : PS), (∀ b ∈ w, isLet b.toNat = true) → x.st ≤ 2 → w ≠ [] → prun (w ++ l) x = prun l ⟨2, colF w x.c, x.r, x.p, x.q⟩
  | [], l, x, _, _, h => absurd rfl h
  | b :: w, l, x, hw, hst, _ => by
    have hb := hw b (by simp)
    have hne : b.toNat ≠ 36 := fun e => by rw [e] at hb; exact absurd hb (by decide)
    have hstep : pstep b.toNat x = some ⟨2, minM (26 * x.c + lowN b.toNat + 1), x.r, x.p, x.q⟩ := by
      unfold pstep
      rw [if_neg (fun h => hne h.1), if_neg (fun h => hne h.1), if_pos ⟨hb, hst⟩]
    simp only [List.cons_append, prun, hstep]
    by_cases he : w = []
    · subst he; rfl
    · rw [prun_let w l _ (fun b hb => hw b (by simp [hb])) (Int.le_refl _) he]
      rfl

theorem prun_dig4 : ∀ (w l : List UInt8) (x : PS), (∀ b ∈ w, isDig b.toNat = true) → x.st = 4 → prun (w ++ l) x = prun l ⟨4, x.c, rowF w x.r, x.p, x.q⟩
  | [], l, x, _, hst => by
    cases x; simp only at hst; subst hst; rfl
  | b :: w, l, x, hw, hst => by
    have hb := hw b (by simp)
    have hne : b.toNat ≠ 36 := fun e => by rw [e] at hb; exact absurd hb (by decide)
    have hstep : pstep b.toNat x = some ⟨4, x.c, minM (10 * x.r + ((b.toNat : Int) - 48)), x.p, x.q⟩ := by
      unfold pstep
      rw [if_neg (fun h => hne h.1), if_neg (fun h => hne h.1), if_neg (fun h => by omega), if_pos ⟨hb, by omega, .inl hst⟩]
    simp only [List.cons_append, prun, hstep]
    rw [prun_dig4 w l _ (fun b hb => hw b (by simp [hb])) rfl]
    rfl

theorem prun_dig (w l : List UInt8) (x : PS) (hw : ∀ b ∈ w, isDig b.toNat = true) (hst : x.st = 2 ∨ x.st = 3) (hne : w ≠ []) (h0 : headIs0 w = false) : prun (w ++ l) x = prun l ⟨4, x.c, rowF w x.r, x.p, x.q⟩ := by
  cases w with
  | nil => exact absurd rfl hne
  | cons b w =>
    have hb := hw b (by simp)
    have hne : b.toNat ≠ 36 := fun e => by rw [e] at hb; exact absurd hb (by decide)
    have h48 : b.toNat ≠ 48 := fun e => by simp [headIs0, e] at h0
    have hnl : isLet b.toNat = false := by
      unfold isDig at hb
      unfold isLet
      simp at hb ⊢
      omega
    have hstep : pstep b.toNat x = some ⟨4, x.c, minM (10 * x.r + ((b.toNat : Int) - 48)), x.p, x.q⟩ := by
      unfold pstep
      rw [if_neg (fun h => hne h.1), if_neg (fun h => hne h.1), if_neg (fun h => by rw [hnl] at h; cases h.1), if_pos ⟨hb, by omega, .inr h48⟩]
    simp only [List.cons_append, prun, hstep]
    rw [prun_dig4 w l _ (fun b hb => hw b (by simp [hb])) rfl]
    rfl

theorem takeWhile_all {f : UInt8 → Bool} : ∀ {l : List UInt8}, ∀ b ∈ l.takeWhile f, f b = true
  | [], b, h => by cases h
  | a :: l, b, h => by
    rw [List.takeWhile_cons] at h
    split at h
    · rename_i ha
      rcases List.mem_cons.1 h with rfl | h
      · exact ha
      · exact takeWhile_all b h
    · cases h

theorem dropWhile_head {f : UInt8 → Bool} : ∀ {l : List UInt8} {b : UInt8} {r : List UInt8}, l.dropWhile f = b :: r → f b = false
  | [], b, r, h => by cases h
  | a :: l, b, r, h => by
    rw [List.dropWhile_cons] at h
    split at h
    · exact dropWhile_head h
    · rename_i ha
      cases h
      simpa using ha

theorem takeWhile_nil {f : UInt8 → Bool} {l : List UInt8} (h : l.takeWhile f = []) : l.dropWhile f = l := by
  have := List.takeWhile_append_dropWhile (p := f) (l := l)
  rw [h] at this
  exact this

/-- Both ways: first the form alone. -/
theorem form_run (t : List UInt8) : (finish (prun t ⟨0, 0, 0, false, false⟩)) =
    if (formS t).ok then finish (some ⟨4, colF (formS t).w 0, rowF (formS t).d 0, (formS t).p, (formS t).q⟩) else finish none := by
  -- behind the first mark
  have h1 : prun t ⟨0, 0, 0, false, false⟩ = prun (dolR t) ⟨if dolB t then 1 else 0, 0, 0, dolB t, false⟩ := by
    unfold dolR
    cases t with
    | nil => rfl
    | cons b l =>
      cases hb : dolB (b :: l)
      · simp only [Bool.false_eq_true, if_false]
      · have hb := Nat.eq_of_beq_eq_true (show Nat.beq b.toNat 36 = true from hb)
        have : pstep b.toNat ⟨0, 0, 0, false, false⟩ = some ⟨1, 0, 0, true, false⟩ := by unfold pstep; rw [if_pos ⟨hb, rfl⟩]
        simp only [prun, this, if_true, List.tail_cons]
  rw [h1]
  unfold formS
  generalize ht1 : dolR t = t1
  have hst : (if dolB t then (1 : Int) else 0) = 0 ∨ (if dolB t then (1 : Int) else 0) = 1 := by cases dolB t <;> simp
  -- the letters
  by_cases hw : letW t1 = []
  · have hR : letR t1 = t1 := takeWhile_nil hw
    simp only [hw, List.isEmpty_nil, Bool.not_true, Bool.and_false, Bool.false_and, Bool.false_eq_true, if_false]
    cases t1 with
    | nil =>
      simp only [prun, finish]
      rw [if_neg (by rcases hst with e | e <;> simp [e])]
    | cons b l =>
      have hl : isLet b.toNat = false := dropWhile_head (f := fun b => isLet b.toNat) (l := b :: l) (r := l) hR
      have hne : ¬ (b.toNat = 36 ∧ (if dolB t then (1 : Int) else 0) = 0) := by
        rintro ⟨e1, e2⟩
        have hb : dolB t = false := by
          cases h : dolB t
          · rfl
          · rw [h] at e2; simp at e2
        unfold dolR at ht1
        rw [hb] at ht1
        simp only [Bool.false_eq_true, if_false] at ht1
        rw [ht1] at hb
        simp [dolB, e1] at hb
      have : pstep b.toNat ⟨if dolB t then 1 else 0, 0, 0, dolB t, false⟩ = none := by
        unfold pstep
        rw [if_neg hne, if_neg (by rintro ⟨_, e⟩; simp only at e; omega), if_neg (by rw [hl]; rintro ⟨e, _⟩; cases e), if_neg (by rintro ⟨_, e, _⟩; simp only at e; omega)]
      simp only [prun, this]
  · have hsp : letW t1 ++ letR t1 = t1 := List.takeWhile_append_dropWhile
    have hem : (letW t1).isEmpty = false := by cases h : letW t1; exact absurd h hw; rfl
    simp only [hem, Bool.not_false, Bool.true_and, Bool.and_true, Bool.false_eq_true, if_false]
    have h2 : prun t1 ⟨if dolB t then 1 else 0, 0, 0, dolB t, false⟩ = prun (letR t1) ⟨2, colF (letW t1) 0, 0, dolB t, false⟩ := by
      conv => lhs; rw [← hsp]
      exact prun_let _ _ _ (fun b hb => takeWhile_all (f := fun b => isLet b.toNat) b hb) (by show (if dolB t then (1 : Int) else 0) ≤ 2; omega) hw
    rw [h2]
    -- the second mark
    have h3 : prun (letR t1) ⟨2, colF (letW t1) 0, 0, dolB t, false⟩ = prun (dolR (letR t1)) ⟨if dolB (letR t1) then 3 else 2, colF (letW t1) 0, 0, dolB t, dolB (letR t1)⟩ := by
      generalize letR t1 = t2
      unfold dolR
      cases t2 with
      | nil => rfl
      | cons b l =>
        cases hb : dolB (b :: l)
        · simp only [Bool.false_eq_true, if_false]
        · have hb := Nat.eq_of_beq_eq_true (show Nat.beq b.toNat 36 = true from hb)
          have : ∀ c p, pstep b.toNat ⟨2, c, 0, p, false⟩ = some ⟨3, c, 0, p, true⟩ := fun c p => by unfold pstep; rw [if_neg (by rintro ⟨_, e⟩; cases e), if_pos ⟨hb, rfl⟩]
          simp only [prun, this, if_true, List.tail_cons]
    rw [h3]
    have hst3 : (if dolB (letR t1) then (3 : Int) else 2) = 2 ∨ (if dolB (letR t1) then (3 : Int) else 2) = 3 := by cases dolB (letR t1) <;> simp
    have hnl : ∀ b l, dolR (letR t1) = b :: l → ¬ (isLet b.toNat = true ∧ (if dolB (letR t1) then (3 : Int) else 2) ≤ 2) ∧ ¬ (b.toNat = 36 ∧ (if dolB (letR t1) then (3 : Int) else 2) = 2) := by
      intro b l h
      cases hd : dolB (letR t1)
      · unfold dolR at h
        rw [hd] at h
        simp only [Bool.false_eq_true, if_false] at h
        have h5 : isLet b.toNat = false := dropWhile_head (f := fun b => isLet b.toNat) (l := t1) h
        refine ⟨fun e => (by rw [h5] at e; cases e.1), fun e => ?_⟩
        rw [h] at hd
        simp [dolB, e.1] at hd
      · refine ⟨fun e => ?_, fun e => ?_⟩
        · have := e.2; simp at this
        · have := e.2; simp at this
    generalize (if dolB (letR t1) then (3 : Int) else 2) = st at *
    generalize dolB (letR t1) = q at *
    generalize dolR (letR t1) = t3 at *
    -- the digits
    have hsp3 : digW t3 ++ digR t3 = t3 := List.takeWhile_append_dropWhile
    by_cases hd : digW t3 = []
    · have hR : digR t3 = t3 := takeWhile_nil hd
      simp only [hd, List.isEmpty_nil, Bool.not_true, Bool.and_false, Bool.false_and, Bool.false_eq_true, if_false]
      cases t3 with
      | nil =>
        simp only [prun, finish]
        rw [if_neg (by omega)]
      | cons b l =>
        have hl : isDig b.toNat = false := dropWhile_head (f := fun b => isDig b.toNat) (l := b :: l) (r := l) hR
        obtain ⟨n1, n2⟩ := hnl b l rfl
        have : pstep b.toNat ⟨st, colF (letW t1) 0, 0, dolB t, q⟩ = none := by
          unfold pstep
          rw [if_neg (by rintro ⟨_, e⟩; simp only at e; omega), if_neg n2, if_neg n1, if_neg (by rw [hl]; rintro ⟨e, _⟩; cases e)]
        simp only [prun, this]
    · have hem3 : (digW t3).isEmpty = false := by cases h : digW t3; exact absurd h hd; rfl
      have hall : ∀ b ∈ digW t3, isDig b.toNat = true := fun b hb => takeWhile_all (f := fun b => isDig b.toNat) b hb
      simp only [hem3, Bool.not_false, Bool.and_true]
      cases h0 : headIs0 (digW t3)
      · simp only [Bool.not_false, Bool.and_true]
        have h4 : prun t3 ⟨st, colF (letW t1) 0, 0, dolB t, q⟩ = prun (digR t3) ⟨4, colF (letW t1) 0, rowF (digW t3) 0, dolB t, q⟩ := by
          conv => lhs; rw [← hsp3]
          exact prun_dig _ _ _ hall hst3 hd h0
        rw [h4]
        cases hr : digR t3 with
        | nil => simp only [prun, List.isEmpty_nil, if_true]
        | cons b l =>
          have hl : isDig b.toNat = false := dropWhile_head (f := fun b => isDig b.toNat) (l := t3) hr
          have : pstep b.toNat ⟨4, colF (letW t1) 0, rowF (digW t3) 0, dolB t, q⟩ = none := by
            unfold pstep
            rw [if_neg (by rintro ⟨_, e⟩; cases e), if_neg (by rintro ⟨_, e⟩; cases e), if_neg (by rintro ⟨_, e⟩; exact absurd e (by show ¬ ((4 : Int) ≤ 2); decide)), if_neg (by rw [hl]; rintro ⟨e, _⟩; cases e)]
          simp only [prun, this, List.isEmpty_cons, Bool.false_eq_true, if_false]
      · simp only [Bool.not_true, Bool.and_false, Bool.false_eq_true, if_false]
        cases hdw : digW t3 with
        | nil => exact absurd hdw hd
        | cons b w =>
          have ht3 : t3 = b :: (w ++ digR t3) := by have h := hsp3; rw [hdw] at h; exact h.symm
          rw [hdw] at h0
          have h48 : b.toNat = 48 := Nat.eq_of_beq_eq_true h0
          have : pstep b.toNat ⟨st, colF (letW t1) 0, 0, dolB t, q⟩ = none := by
            unfold pstep isLet
            rw [if_neg (by rw [h48]; rintro ⟨e, _⟩; omega), if_neg (by rw [h48]; rintro ⟨e, _⟩; omega), if_neg (by rw [h48]; rintro ⟨e, _⟩; exact absurd e (by decide)), if_neg (by rw [h48]; rintro ⟨_, _, e⟩; rcases e with e | e; (simp only at e; omega); exact e rfl)]
          rw [ht3]
          simp only [prun, this]

theorem minM_ge {x k : Int} (h : k ≤ x) (hk : k ≤ 1048576) : k ≤ minM x := by unfold minM; split <;> omega
theorem minM_le (x : Int) : minM x ≤ 1048576 := by unfold minM; split <;> omega
theorem minM_id {x : Int} (h : x < 1048576) : minM x = x := by unfold minM; rw [if_pos h]

theorem colF_ge : ∀ (w : List UInt8) (c k : Int), 0 ≤ k → k ≤ c → k ≤ 1048576 → k ≤ colF w c
  | [], c, k, _, h, _ => h
  | b :: w, c, k, h0, h, hk => colF_ge w _ k h0 (minM_ge (by omega) hk) hk

theorem rowF_ge : ∀ (w : List UInt8) (r k : Int), (∀ b ∈ w, isDig b.toNat = true) → 0 ≤ k → k ≤ r → k ≤ 1048576 → k ≤ rowF w r
  | [], r, k, _, _, h, _ => h
  | b :: w, r, k, hw, h0, h, hk => by
    have hb := hw b (by simp)
    unfold isDig at hb
    simp only [Bool.and_eq_true, decide_eq_true_eq] at hb
    exact rowF_ge w _ k (fun b hb => hw b (by simp [hb])) h0 (minM_ge (by omega) hk) hk

theorem col_long {w : List UInt8} (h : 2 < w.length) : 256 < colF w 0 := by
  match w, h with
  | a :: b :: c :: w, _ =>
    have h1 : (1 : Int) ≤ minM (26 * 0 + lowN a.toNat + 1) := minM_ge (by omega) (by omega)
    have h2 : (27 : Int) ≤ minM (26 * minM (26 * 0 + lowN a.toNat + 1) + lowN b.toNat + 1) := minM_ge (by omega) (by omega)
    have h3 : (703 : Int) ≤ minM (26 * minM (26 * minM (26 * 0 + lowN a.toNat + 1) + lowN b.toNat + 1) + lowN c.toNat + 1) := minM_ge (by omega) (by omega)
    have := colF_ge w _ 703 (by omega) h3 (by omega)
    have e : colF (a :: b :: c :: w) 0 = colF w (minM (26 * minM (26 * minM (26 * 0 + lowN a.toNat + 1) + lowN b.toNat + 1) + lowN c.toNat + 1)) := by simp only [colF, List.foldl_cons]
    omega

theorem row_long {w : List UInt8} (hw : ∀ b ∈ w, isDig b.toNat = true) (h0 : headIs0 w = false) (h : 4 < w.length) : 4096 < rowF w 0 := by
  match w, h with
  | a :: b :: c :: d :: e :: w, _ =>
    have dg : ∀ x ∈ a :: b :: c :: d :: e :: w, 48 ≤ x.toNat := fun x hx => by
      have := hw x hx
      unfold isDig at this
      simp at this
      omega
    have a0 : a.toNat ≠ 48 := fun e => by simp [headIs0, e] at h0
    have ga := dg a (by simp); have gb := dg b (by simp); have gc := dg c (by simp); have gd := dg d (by simp); have ge := dg e (by simp)
    have h1 : (1 : Int) ≤ minM (10 * 0 + ((a.toNat : Int) - 48)) := minM_ge (by omega) (by omega)
    have h2 : (10 : Int) ≤ minM (10 * minM (10 * 0 + ((a.toNat : Int) - 48)) + ((b.toNat : Int) - 48)) := minM_ge (by omega) (by omega)
    generalize e2 : minM (10 * minM (10 * 0 + ((a.toNat : Int) - 48)) + ((b.toNat : Int) - 48)) = x2 at h2
    have h3 : (100 : Int) ≤ minM (10 * x2 + ((c.toNat : Int) - 48)) := minM_ge (by omega) (by omega)
    generalize e3 : minM (10 * x2 + ((c.toNat : Int) - 48)) = x3 at h3
    have h4 : (1000 : Int) ≤ minM (10 * x3 + ((d.toNat : Int) - 48)) := minM_ge (by omega) (by omega)
    generalize e4 : minM (10 * x3 + ((d.toNat : Int) - 48)) = x4 at h4
    have h5 : (10000 : Int) ≤ minM (10 * x4 + ((e.toNat : Int) - 48)) := minM_ge (by omega) (by omega)
    have := rowF_ge w _ 10000 (fun b hb => hw b (by simp [hb])) (by omega) h5 (by omega)
    have ee : rowF (a :: b :: c :: d :: e :: w) 0 = rowF w (minM (10 * x4 + ((e.toNat : Int) - 48))) := by rw [← e4, ← e3, ← e2]; simp only [rowF, List.foldl_cons]
    omega

theorem form_ok {t : List UInt8} (h : (formS t).ok = true) : (formS t).w ≠ [] ∧ (formS t).d ≠ [] ∧ (∀ b ∈ (formS t).w, isLet b.toNat = true) ∧ (∀ b ∈ (formS t).d, isDig b.toNat = true) ∧ headIs0 (formS t).d = false := by
  unfold formS at h ⊢
  simp only [Bool.and_eq_true, Bool.not_eq_true', List.isEmpty_eq_false_iff] at h
  exact ⟨h.1.1.2, h.1.2, fun b hb => takeWhile_all (f := fun b => isLet b.toNat) b hb, fun b hb => takeWhile_all (f := fun b => isDig b.toNat) b hb, h.2⟩

/-- A text read: by its parts. -/
theorem parse_eq (t : List UInt8) : parseS t =
    if (formS t).ok then (if decide (2 < (formS t).w.length) || decide (4 < (formS t).d.length) then ⟨0, 0, false, false, errAddr⟩ else finish (some ⟨4, colF (formS t).w 0, rowF (formS t).d 0, (formS t).p, (formS t).q⟩)) else finish none := by
  unfold parseS
  rw [form_run]
  split
  · rename_i hok
    obtain ⟨_, _, _, h4, h5⟩ := form_ok hok
    split
    · rename_i hl
      simp only [Bool.or_eq_true, decide_eq_true_eq] at hl
      unfold finish
      simp only [if_true]
      rw [if_neg ?_]
      rw [validB_iff]
      rcases hl with hl | hl
      · have := col_long hl; omega
      · have := row_long h4 h5 hl; omega
    · rfl
  · rfl

end Go.Proofs.YthclpocignpfhaaDoor.AdS
