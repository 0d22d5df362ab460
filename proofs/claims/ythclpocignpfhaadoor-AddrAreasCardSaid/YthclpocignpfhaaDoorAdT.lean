/-
  Layer 10 (addr): the reference's form and Parse as contracts.
-/
import Derived.Test.YthclpocignpfhaaDoorAdR
namespace Go.Proofs.YthclpocignpfhaaDoor
open Go Go.RowKit Ev AdS

def colX (s : List UInt8) : Bool := decide ((0 : Int) < (s.length : Int)) && ((bytesAt ⟨⟨s⟩⟩ (Int.toNat 0) : Int) == 36)
def rowX (s : List UInt8) (k : Int) (W : List UInt8) : Bool := ((!(W == ([] : List UInt8))) && ltI s k) && (byI s k == 36)
def okX (s : List UInt8) (j : Int) (W d : List UInt8) : Bool := ((j == (s.length : Int) && !(W == ([] : List UInt8))) && !(d == ([] : List UInt8))) && ((bytesAt ⟨⟨d⟩⟩ (Int.toNat 0) : Int) != 48)

/-- what the guarded operations of the last test ask -/
def obC (s : List UInt8) (j : Int) (W d : List UInt8) : Prop :=
  condP [(16, ((j == (s.length : Int) && !(W == ([] : List UInt8))) && !(d == ([] : List UInt8)))), (12, (j == (s.length : Int) && !(W == ([] : List UInt8)))), (8, j == (s.length : Int))] [(16, true)] → (0 : Int) ≤ 0 ∧ Int.toNat 0 < d.length
def obR (s : List UInt8) (k : Int) (W : List UInt8) : Prop :=
  condP [(8, ((!(W == ([] : List UInt8))) && ltI s k)), (2, !(W == ([] : List UInt8)))] [(8, true)] → inR s k
def obD (s : List UInt8) : Prop := condP [(4, decide ((0 : Int) < (s.length : Int)))] [(4, true)] → (0 : Int) ≤ 0 ∧ Int.toNat 0 < s.length

theorem obC_ok (s : List UInt8) (j : Int) (W d : List UInt8) : obC s j W d := by
  intro h
  have h : ((j == (s.length : Int) && !(W == ([] : List UInt8))) && !(d == ([] : List UInt8))) = true := h
  simp only [Bool.and_eq_true] at h
  cases d with
  | nil => exact absurd h.2 (by decide)
  | cons b l => exact ⟨Int.le_refl _, by simp⟩
theorem obR_ok {s : List UInt8} {k : Int} {W : List UInt8} (h0 : 0 ≤ k) : obR s k W := by
  intro h
  have h : ((!(W == ([] : List UInt8))) && ltI s k) = true := h
  simp only [Bool.and_eq_true] at h
  exact inR_of h0 h.2
theorem obD_ok (s : List UInt8) : obD s := by
  intro h
  have h : decide ((0 : Int) < (s.length : Int)) = true := h
  have := of_decide_eq_true h
  exact ⟨Int.le_refl _, by simp; omega⟩

def vForm (W d : List UInt8) (p q ok : Bool) : Value := .tuple ⟨[.string ⟨⟨W⟩⟩, .string ⟨⟨d⟩⟩, .bool p, .bool q, .bool ok]⟩

set_option maxRecDepth 100000 in
theorem form_raw (s : List UInt8) (cb rb : Bool) (k j fr : Int) (W d : List UInt8) (hd : d = (s.take j.toNat).drop fr.toNat) (hk : 0 ≤ k) (hj : (0 ≤ j ∧ j ≤ (s.length : Int)) ∧ 0 ≤ fr ∧ fr ≤ j) (hc : colX s = cb) (hr : rowX s k W = rb)
    (ha : LoopTo X10 c38a (S38 s cb) (.exit 0) (T38a (S38 s cb) s k (colX s) W))
    (hb : LoopTo X10 c38b (S38b s cb rb k (colX s) W) (.exit 2) (T38b (S38b s cb rb k (colX s) W) s j (colX s) W (rowX s k W) fr)) :
    Pure Tryd.prog J0 38 [.string ⟨⟨s⟩⟩] (vForm W d (colX s) (rowX s k W) (okX s j W d)) := by
  subst hd
  cases cb <;> cases rb
  · exact pure_of bB3_ok 10 [told (.exit 0) (fun S => T38a S s k (colX s) W), told (.exit 2) (fun S => T38b S s j (colX s) W (rowX s k W) fr)] [false, false]
      (l := [obC s j W ((s.take j.toNat).drop fr.toNat), (0 ≤ j ∧ j ≤ (s.length : Int)) ∧ 0 ≤ fr ∧ fr ≤ j, LoopTo X10 c38b (S38b s false false k (colX s) W) (.exit 2) (T38b (S38b s false false k (colX s) W) s j (colX s) W (rowX s k W) fr), rowX s k W = false, obR s k W,
        LoopTo X10 c38a (S38 s false) (.exit 0) (T38a (S38 s false) s k (colX s) W), colX s = false, obD s]) (by kernel_rfl) ⟨obC_ok _ _ _ _, hj, hb, hr, obR_ok hk, ha, hc, obD_ok s, trivial⟩
  · exact pure_of bB3_ok 10 [told (.exit 0) (fun S => T38a S s k (colX s) W), told (.exit 2) (fun S => T38b S s j (colX s) W (rowX s k W) fr)] [false, true]
      (l := [obC s j W ((s.take j.toNat).drop fr.toNat), (0 ≤ j ∧ j ≤ (s.length : Int)) ∧ 0 ≤ fr ∧ fr ≤ j, LoopTo X10 c38b (S38b s false true k (colX s) W) (.exit 2) (T38b (S38b s false true k (colX s) W) s j (colX s) W (rowX s k W) fr), rowX s k W = true, obR s k W,
        LoopTo X10 c38a (S38 s false) (.exit 0) (T38a (S38 s false) s k (colX s) W), colX s = false, obD s]) (by kernel_rfl) ⟨obC_ok _ _ _ _, hj, hb, hr, obR_ok hk, ha, hc, obD_ok s, trivial⟩
  · exact pure_of bB3_ok 10 [told (.exit 0) (fun S => T38a S s k (colX s) W), told (.exit 2) (fun S => T38b S s j (colX s) W (rowX s k W) fr)] [true, false]
      (l := [obC s j W ((s.take j.toNat).drop fr.toNat), (0 ≤ j ∧ j ≤ (s.length : Int)) ∧ 0 ≤ fr ∧ fr ≤ j, LoopTo X10 c38b (S38b s true false k (colX s) W) (.exit 2) (T38b (S38b s true false k (colX s) W) s j (colX s) W (rowX s k W) fr), rowX s k W = false, obR s k W,
        LoopTo X10 c38a (S38 s true) (.exit 0) (T38a (S38 s true) s k (colX s) W), colX s = true, obD s]) (by kernel_rfl) ⟨obC_ok _ _ _ _, hj, hb, hr, obR_ok hk, ha, hc, obD_ok s, trivial⟩
  · exact pure_of bB3_ok 10 [told (.exit 0) (fun S => T38a S s k (colX s) W), told (.exit 2) (fun S => T38b S s j (colX s) W (rowX s k W) fr)] [true, true]
      (l := [obC s j W ((s.take j.toNat).drop fr.toNat), (0 ≤ j ∧ j ≤ (s.length : Int)) ∧ 0 ≤ fr ∧ fr ≤ j, LoopTo X10 c38b (S38b s true true k (colX s) W) (.exit 2) (T38b (S38b s true true k (colX s) W) s j (colX s) W (rowX s k W) fr), rowX s k W = true, obR s k W,
        LoopTo X10 c38a (S38 s true) (.exit 0) (T38a (S38 s true) s k (colX s) W), colX s = true, obD s]) (by kernel_rfl) ⟨obC_ok _ _ _ _, hj, hb, hr, obR_ok hk, ha, hc, obD_ok s, trivial⟩

theorem drop_span {f : UInt8 → Bool} : ∀ l : List UInt8, l.drop (l.takeWhile f).length = l.dropWhile f ∧ l.take (l.takeWhile f).length = l.takeWhile f ∧ (l.takeWhile f).length ≤ l.length
  | [] => ⟨rfl, rfl, Nat.le_refl _⟩
  | a :: l => by
    obtain ⟨h1, h2, h3⟩ := drop_span (f := f) l
    rw [List.takeWhile_cons, List.dropWhile_cons]
    split
    · exact ⟨by simpa using h1, by simpa using h2, by simpa using h3⟩
    · exact ⟨rfl, rfl, by simp⟩

theorem colX_eq (s : List UInt8) : colX s = dolB s := by
  cases s with
  | nil => rfl
  | cons b l =>
    unfold colX dolB bytesAt
    rw [Bool.eq_iff_iff]
    simp
    omega

theorem dol_drop (t : List UInt8) : dolR t = t.drop (if dolB t then 1 else 0) ∧ (if dolB t then 1 else 0) ≤ t.length := by
  unfold dolR
  cases t with
  | nil => exact ⟨rfl, by decide⟩
  | cons b l =>
    cases dolB (b :: l)
    · exact ⟨rfl, by simp⟩
    · exact ⟨rfl, by simp⟩

theorem beq_nil (l : List UInt8) : (l == ([] : List UInt8)) = l.isEmpty := by cases l <;> rfl

theorem map_nil' (l : List UInt8) : (l.map upB).isEmpty = l.isEmpty := by cases l <;> rfl

theorem rowX_eq {s : List UInt8} {k : Nat} (hk : k ≤ s.length) (w : List UInt8) : rowX s k (w.map upB) = (!w.isEmpty && dolB (s.drop k)) := by
  unfold rowX
  rw [beq_nil, map_nil', Bool.and_assoc]
  congr 1
  by_cases h : k < s.length
  · rw [drop_at s k h, byI_at h, show ltI s (k : Int) = true from decide_eq_true (by omega)]
    unfold dolB
    rw [Bool.eq_iff_iff]
    simp
    omega
  · rw [show ltI s (k : Int) = false from decide_eq_false (by omega), List.drop_eq_nil_of_le (by omega)]
    rfl

theorem beq_false_iff {a b : Nat} : Nat.beq a b = false ↔ a ≠ b := by
  constructor
  · intro h e; subst e; rw [Nat.beq_refl] at h; cases h
  · exact beq_false

theorem head0 (d : List UInt8) (hd : d ≠ []) : ((bytesAt ⟨⟨d⟩⟩ (Int.toNat 0) : Int) != 48) = !headIs0 d := by
  cases d with
  | nil => exact absurd rfl hd
  | cons b l =>
    unfold bytesAt headIs0
    rw [Bool.eq_iff_iff]
    have e : ((ByteArray.mk ⟨b :: l⟩).data.toList.getD (Int.toNat 0) 0) = b := rfl
    rw [e]
    simp only [bne_iff_ne, ne_eq, Bool.not_eq_true', beq_false_iff]
    omega

set_option maxRecDepth 100000 in
/-- quadrilleref10.form. -/
theorem form_pure (s : List UInt8) (hs : s.length ≤ 9223372036854775807) : Pure Tryd.prog J0 38 [.string ⟨⟨s⟩⟩] (vForm ((formS s).w.map upB) (formS s).d (formS s).p (formS s).q (formS s).ok) := by
  obtain ⟨e1, l1⟩ := dol_drop s
  obtain ⟨a1, a2, a3⟩ := drop_span (f := fun b => isLet b.toNat) (dolR s)
  -- where the first loop ends
  have hk : (if dolB s then 1 else 0) + (letW (dolR s)).length ≤ s.length := by
    rw [e1, List.length_drop] at a3
    have : (letW (dolR s)).length ≤ s.length - (if dolB s then 1 else 0) := by rw [e1]; exact a3
    omega
  have hdk : s.drop ((if dolB s then 1 else 0) + (letW (dolR s)).length) = letR (dolR s) := by
    rw [← List.drop_drop, ← e1]; exact a1
  generalize hkk : (if dolB s then 1 else 0) + (letW (dolR s)).length = k at hk hdk
  generalize hW : (letW (dolR s)).map upB = W
  have hLa : ∀ cb, dolB s = cb → LoopTo X10 c38a (S38 s cb) (.exit 0) (T38a (S38 s cb) s k (colX s) W) := by
    intro cb hcb
    rw [hcb] at e1 hkk
    cases cb
    · have e1' : s = dolR s := by simpa using e1.symm
      have hkk' : 0 + (letW (dolR s)).length = k := by simpa using hkk
      have hW0 : letW s = letW (dolR s) := congrArg letW e1'
      exact loop_into' (loop38a s false hs (colX s) k W ⟨0, []⟩ ⟨Nat.zero_le _, Nat.le_refl _, by simp only [List.drop_zero]; rw [hW0]; exact hkk', by simp only [List.drop_zero, List.nil_append]; rw [hW0]; exact hW⟩) [] (by kernel_rfl) (by kernel_rfl) (by kernel_rfl)
    · have e1' : dolR s = s.drop 1 := by simpa using e1
      have hkk' : 1 + (letW (dolR s)).length = k := by simpa using hkk
      rw [hcb] at l1
      exact loop_into' (loop38a s true hs (colX s) k W ⟨1, []⟩ ⟨by simpa using l1, by simp, by simp only; rw [← e1']; exact hkk', by simp only [List.nil_append]; rw [← e1']; exact hW⟩) [] (by kernel_rfl) (by kernel_rfl) (by kernel_rfl)
  have hrow : rowX s k W = (!(letW (dolR s)).isEmpty && dolB (letR (dolR s))) := by rw [← hW, rowX_eq hk, hdk]
  -- where the second begins
  obtain ⟨e2, l2⟩ := dol_drop (letR (dolR s))
  generalize hrb : (!(letW (dolR s)).isEmpty && dolB (letR (dolR s))) = rb at hrow
  have ht3 : (if (letW (dolR s)).isEmpty then letR (dolR s) else dolR (letR (dolR s))) = s.drop (if rb then k + 1 else k) ∧ (if rb then k + 1 else k) ≤ s.length := by
    cases hem : (letW (dolR s)).isEmpty
    · rw [hem] at hrb
      simp only [Bool.not_false, Bool.true_and] at hrb
      rw [hrb, ← hdk, List.drop_drop] at e2
      rw [hrb, ← hdk, List.length_drop] at l2
      cases rb
      · exact ⟨by rw [← hdk]; simpa using e2, by simpa using hk⟩
      · refine ⟨by rw [← hdk]; simpa using e2, ?_⟩
        simp only [if_true] at l2 ⊢
        omega
    · rw [hem] at hrb
      simp only [Bool.not_true, Bool.false_and] at hrb
      subst hrb
      exact ⟨by simpa using hdk.symm, by simpa using hk⟩
  obtain ⟨ht3, hfl⟩ := ht3
  have hF : formS s = ⟨letW (dolR s), digW (s.drop (if rb then k + 1 else k)), dolB s, rb, (digR (s.drop (if rb then k + 1 else k))).isEmpty && !(letW (dolR s)).isEmpty && !(digW (s.drop (if rb then k + 1 else k))).isEmpty && !headIs0 (digW (s.drop (if rb then k + 1 else k)))⟩ := by
    unfold formS
    rw [ht3, hrb]
  generalize hfr : (if rb then k + 1 else k) = fr at *
  obtain ⟨b1, b2, b3⟩ := drop_span (f := fun b => isDig b.toNat) (s.drop fr)
  have hjl : fr + (digW (s.drop fr)).length ≤ s.length := by
    rw [List.length_drop] at b3
    have : (digW (s.drop fr)).length ≤ s.length - fr := b3
    omega
  have hjd : s.drop (fr + (digW (s.drop fr)).length) = digR (s.drop fr) := by
    rw [← List.drop_drop]; exact b1
  generalize hj : fr + (digW (s.drop fr)).length = j at hjl hjd
  have hw : rb = true → IntKind.i64.wrap ((k : Int) + 1) = ((k + 1 : Nat) : Int) := fun h => by
    rw [h] at hfr
    simp only [if_true] at hfr
    rw [wrapS (by omega) (by omega)]; omega
  have hLb : ∀ cb, LoopTo X10 c38b (S38b s cb rb k (colX s) W) (.exit 2) (T38b (S38b s cb rb k (colX s) W) s j (colX s) W (rowX s k W) (if rb then IntKind.i64.wrap ((k : Int) + 1) else k)) := by
    intro cb
    cases rb
    · simp only [Bool.false_eq_true, if_false] at hfr ⊢
      subst hfr
      have := loop38b s cb false hs k (colX s) W (rowX s k W) k j k ⟨hk, hj⟩
      cases cb <;> exact loop_into' this [] (by kernel_rfl) (by kernel_rfl) (by kernel_rfl)
    · simp only [if_true] at hfr ⊢
      subst hfr
      have := loop38b s cb true hs k (colX s) W (rowX s k W) (IntKind.i64.wrap ((k : Int) + 1)) j (k + 1) ⟨hfl, hj⟩
      rw [← hw rfl] at this
      cases cb <;> exact loop_into' this [] (by kernel_rfl) (by kernel_rfl) (by kernel_rfl)
  have hfrI : (if rb then IntKind.i64.wrap ((k : Int) + 1) else (k : Int)) = (fr : Int) := by
    rw [← hfr]
    cases rb
    · rfl
    · exact hw rfl
  have hd : digW (s.drop fr) = (s.take (j : Int).toNat).drop (fr : Int).toNat := by
    rw [Int.toNat_natCast, Int.toNat_natCast, List.drop_take, show j - fr = (digW (s.drop fr)).length by omega]
    exact b2.symm
  have := form_raw s (dolB s) rb k j (fr : Int) W (digW (s.drop fr)) hd (by omega) ⟨⟨by omega, by omega⟩, by omega, by omega⟩ (colX_eq s) hrow (hLa _ rfl) (by have := hLb (dolB s); rw [hfrI] at this; exact this)
  rw [hF]
  simp only
  rw [hW]
  have hok : okX s j W (digW (s.drop fr)) = ((digR (s.drop fr)).isEmpty && !(letW (dolR s)).isEmpty && !(digW (s.drop fr)).isEmpty && !headIs0 (digW (s.drop fr))) := by
    unfold okX
    rw [beq_nil, beq_nil, ← hW, map_nil']
    have ej : ((j : Int) == (s.length : Int)) = (digR (s.drop fr)).isEmpty := by
      rw [← hjd, Bool.eq_iff_iff]
      simp only [beq_iff_eq, List.isEmpty_iff, List.drop_eq_nil_iff]
      omega
    rw [ej]
    by_cases hdn : digW (s.drop fr) = []
    · rw [hdn]; simp
    · rw [head0 _ hdn]
  rw [hok, colX_eq, hrow] at this
  exact this

end Go.Proofs.YthclpocignpfhaaDoor
