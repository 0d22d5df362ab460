/-
  Layer 10 (addr): the reference's Parse. (The ways through the two short loops are printed by wip/mkparse.py.)
-/
import Derived.Test.YthclpocignpfhaaDoorAdT
namespace Go.Proofs.YthclpocignpfhaaDoor
open Go Go.RowKit Ev AdS

def specFormAt (s W d : List UInt8) (p q ok : Bool) : List Value → Option (Value × List Prop)
  | [.string ⟨⟨t⟩⟩] => some (.tuple ⟨[.string ⟨⟨W⟩⟩, .string ⟨⟨d⟩⟩, .bool p, .bool q, .bool ok]⟩, [t = s])
  | _ => none

noncomputable def bF (s W d : List UInt8) (p q ok : Bool) : Base := ⟨Tryd.prog, J0, false, tabAdd 38 (specFormAt s W d p q ok) tabB3, mtab0, 200⟩

theorem bF_ok {s W d : List UInt8} {p q ok : Bool} (h : Pure Tryd.prog J0 38 [.string ⟨⟨s⟩⟩] (vForm W d p q ok)) : BaseOk (bF s W d p q ok) :=
  ⟨progOk, tabAdd_ok (fun args v l hs hl => by
    unfold specFormAt at hs
    split at hs
    · cases hs
      have e := hl.1
      subst e
      exact h
    · cases hs) tabB3_ok, mtab0_ok _ _⟩

def rawC (a : UInt8) (c : Int) : Int := IntKind.i64.wrap (IntKind.i64.wrap (IntKind.i64.wrap (26 * c) + IntKind.i64.wrap (IntKind.u8.wrap ((a.toNat : Int) - 65))) + 1)
def rawR (a : UInt8) (r : Int) : Int := IntKind.i64.wrap (IntKind.i64.wrap (10 * r) + IntKind.i64.wrap (IntKind.u8.wrap ((a.toNat : Int) - 48)))
def colRaw (W : List UInt8) : Int := W.foldl (fun c a => rawC a c) 0
def rowRaw (W : List UInt8) : Int := W.foldl (fun c a => rawR a c) 0

theorem rawC_eq {a : UInt8} (ha : isLet a.toNat = true) {c : Int} (h0 : 0 ≤ c) (h1 : c ≤ 1000) : rawC (upB a) c = minM (26 * c + lowN a.toNat + 1) ∧ 0 ≤ minM (26 * c + lowN a.toNat + 1) ∧ minM (26 * c + lowN a.toNat + 1) ≤ 26 * c + 26 := by
  unfold isLet at ha
  simp only [Bool.or_eq_true, Bool.and_eq_true, decide_eq_true_eq] at ha
  have e : ((upB a).toNat : Int) - 65 = lowN a.toNat ∧ lowN a.toNat ≤ 25 := by
    unfold upB lowN
    split
    · have : (UInt8.ofNat (a.toNat - 32)).toNat = a.toNat - 32 := by simp; omega
      rw [this]; omega
    · omega
  have hu : IntKind.u8.wrap (lowN a.toNat : Int) = lowN a.toNat := by
    unfold IntKind.wrap
    simp [IntKind.bits, IntKind.signed]
    omega
  unfold rawC
  rw [e.1, hu, wrapS (n := (lowN a.toNat : Int)) (by omega) (by omega), wrapS (n := 26 * c) (by omega) (by omega), wrapS (n := 26 * c + _) (by omega) (by omega), wrapS (by omega) (by omega)]
  rw [minM_id (by omega)]
  omega

theorem rawR_eq {a : UInt8} (ha : isDig a.toNat = true) {c : Int} (h0 : 0 ≤ c) (h1 : c ≤ 10000) : rawR a c = minM (10 * c + ((a.toNat : Int) - 48)) ∧ 0 ≤ minM (10 * c + ((a.toNat : Int) - 48)) ∧ minM (10 * c + ((a.toNat : Int) - 48)) ≤ 10 * c + 9 := by
  unfold isDig at ha
  simp only [Bool.and_eq_true, decide_eq_true_eq] at ha
  have hu : IntKind.u8.wrap ((a.toNat : Int) - 48) = (a.toNat : Int) - 48 := by
    unfold IntKind.wrap
    simp [IntKind.bits, IntKind.signed]
    omega
  unfold rawR
  rw [hu, wrapS (n := (a.toNat : Int) - 48) (by omega) (by omega), wrapS (n := 10 * c) (by omega) (by omega), wrapS (by omega) (by omega)]
  rw [minM_id (by omega)]
  omega

theorem colRaw_eq {w : List UInt8} (hw : ∀ b ∈ w, isLet b.toNat = true) (hl : w.length ≤ 2) : colRaw (w.map upB) = colF w 0 := by
  have key : ∀ (w : List UInt8) (c B : Int), (∀ b ∈ w, isLet b.toNat = true) → 0 ≤ c → c ≤ B → (w.length = 0 ∨ (w.length = 1 ∧ B ≤ 1000) ∨ (w.length = 2 ∧ B ≤ 0)) → (w.map upB).foldl (fun c a => rawC a c) c = colF w c := by
    intro w
    induction w with
    | nil => intro c B _ _ _ _; rfl
    | cons a w ih =>
      intro c B hw h0 h1 hl
      simp only [List.length_cons] at hl
      obtain ⟨g1, g2, g3⟩ := rawC_eq (hw a (by simp)) (c := c) h0 (by omega)
      simp only [List.map_cons, List.foldl_cons, colF]
      rw [g1]
      exact ih _ (26 * B + 26) (fun b hb => hw b (by simp [hb])) g2 (by omega) (by omega)
  exact key w 0 0 hw (by omega) (by omega) (by omega)

theorem rowRaw_eq {w : List UInt8} (hw : ∀ b ∈ w, isDig b.toNat = true) (hl : w.length ≤ 4) : rowRaw w = rowF w 0 := by
  have key : ∀ (w : List UInt8) (c B : Int), (∀ b ∈ w, isDig b.toNat = true) → 0 ≤ c → c ≤ B → (w.length = 0 ∨ (w.length = 1 ∧ B ≤ 10000) ∨ (w.length = 2 ∧ B ≤ 999) ∨ (w.length = 3 ∧ B ≤ 99) ∨ (w.length = 4 ∧ B ≤ 0)) → w.foldl (fun c a => rawR a c) c = rowF w c := by
    intro w
    induction w with
    | nil => intro c B _ _ _ _; rfl
    | cons a w ih =>
      intro c B hw h0 h1 hl
      simp only [List.length_cons] at hl
      obtain ⟨g1, g2, g3⟩ := rawR_eq (hw a (by simp)) (c := c) h0 (by omega)
      simp only [List.foldl_cons, rowF]
      rw [g1]
      exact ih _ (10 * B + 9) (fun b hb => hw b (by simp [hb])) g2 (by omega) (by omega)
  exact key w 0 0 hw (by omega) (by omega) (by omega)


set_option maxRecDepth 100000 in
theorem rp_11t (s : List UInt8) (a x : UInt8) (p q : Bool) (h : Pure Tryd.prog J0 38 [.string ⟨⟨s⟩⟩] (vForm [a] [x] p q true)) (hv : validB (colRaw [a]) (rowRaw [x]) = true) :
    Pure Tryd.prog J0 10 [.string ⟨⟨s⟩⟩] (vParse ⟨colRaw [a], rowRaw [x], p, q, 0⟩) :=
  pure_of (bF_ok h) 10 [] [false, false, true, false, true, false, false] (l := [(!validB (colRaw [a]) (rowRaw [x])) = false, false = false, ((0 : Int) ≤ 0 ∧ (0 : Nat) < 1), true = true, false = false, ((0 : Int) ≤ 0 ∧ (0 : Nat) < 1), true = true, false = false, (!true) = false, s = s]) (by kernel_rfl) (by refine ⟨by rw [hv]; rfl, ?_⟩; simp [allP])


set_option maxRecDepth 100000 in
theorem rp_11f (s : List UInt8) (a x : UInt8) (p q : Bool) (h : Pure Tryd.prog J0 38 [.string ⟨⟨s⟩⟩] (vForm [a] [x] p q true)) (hv : validB (colRaw [a]) (rowRaw [x]) = false) :
    Pure Tryd.prog J0 10 [.string ⟨⟨s⟩⟩] (vParse ⟨0, 0, false, false, errAddr⟩) :=
  pure_of (bF_ok h) 10 [] [false, false, true, false, true, false, true] (l := [(!validB (colRaw [a]) (rowRaw [x])) = true, false = false, ((0 : Int) ≤ 0 ∧ (0 : Nat) < 1), true = true, false = false, ((0 : Int) ≤ 0 ∧ (0 : Nat) < 1), true = true, false = false, (!true) = false, s = s]) (by kernel_rfl) (by refine ⟨by rw [hv]; rfl, ?_⟩; simp [allP])


set_option maxRecDepth 100000 in
theorem rp_12t (s : List UInt8) (a x y : UInt8) (p q : Bool) (h : Pure Tryd.prog J0 38 [.string ⟨⟨s⟩⟩] (vForm [a] [x, y] p q true)) (hv : validB (colRaw [a]) (rowRaw [x, y]) = true) :
    Pure Tryd.prog J0 10 [.string ⟨⟨s⟩⟩] (vParse ⟨colRaw [a], rowRaw [x, y], p, q, 0⟩) :=
  pure_of (bF_ok h) 10 [] [false, false, true, false, true, true, false, false] (l := [(!validB (colRaw [a]) (rowRaw [x, y])) = false, false = false, ((0 : Int) ≤ 1 ∧ (1 : Nat) < 2), true = true, ((0 : Int) ≤ 0 ∧ (0 : Nat) < 2), true = true, false = false, ((0 : Int) ≤ 0 ∧ (0 : Nat) < 1), true = true, false = false, (!true) = false, s = s]) (by kernel_rfl) (by refine ⟨by rw [hv]; rfl, ?_⟩; simp [allP])


set_option maxRecDepth 100000 in
theorem rp_12f (s : List UInt8) (a x y : UInt8) (p q : Bool) (h : Pure Tryd.prog J0 38 [.string ⟨⟨s⟩⟩] (vForm [a] [x, y] p q true)) (hv : validB (colRaw [a]) (rowRaw [x, y]) = false) :
    Pure Tryd.prog J0 10 [.string ⟨⟨s⟩⟩] (vParse ⟨0, 0, false, false, errAddr⟩) :=
  pure_of (bF_ok h) 10 [] [false, false, true, false, true, true, false, true] (l := [(!validB (colRaw [a]) (rowRaw [x, y])) = true, false = false, ((0 : Int) ≤ 1 ∧ (1 : Nat) < 2), true = true, ((0 : Int) ≤ 0 ∧ (0 : Nat) < 2), true = true, false = false, ((0 : Int) ≤ 0 ∧ (0 : Nat) < 1), true = true, false = false, (!true) = false, s = s]) (by kernel_rfl) (by refine ⟨by rw [hv]; rfl, ?_⟩; simp [allP])


set_option maxRecDepth 100000 in
theorem rp_13t (s : List UInt8) (a x y z : UInt8) (p q : Bool) (h : Pure Tryd.prog J0 38 [.string ⟨⟨s⟩⟩] (vForm [a] [x, y, z] p q true)) (hv : validB (colRaw [a]) (rowRaw [x, y, z]) = true) :
    Pure Tryd.prog J0 10 [.string ⟨⟨s⟩⟩] (vParse ⟨colRaw [a], rowRaw [x, y, z], p, q, 0⟩) :=
  pure_of (bF_ok h) 10 [] [false, false, true, false, true, true, true, false, false] (l := [(!validB (colRaw [a]) (rowRaw [x, y, z])) = false, false = false, ((0 : Int) ≤ 2 ∧ (2 : Nat) < 3), true = true, ((0 : Int) ≤ 1 ∧ (1 : Nat) < 3), true = true, ((0 : Int) ≤ 0 ∧ (0 : Nat) < 3), true = true, false = false, ((0 : Int) ≤ 0 ∧ (0 : Nat) < 1), true = true, false = false, (!true) = false, s = s]) (by kernel_rfl) (by refine ⟨by rw [hv]; rfl, ?_⟩; simp [allP])


set_option maxRecDepth 100000 in
theorem rp_13f (s : List UInt8) (a x y z : UInt8) (p q : Bool) (h : Pure Tryd.prog J0 38 [.string ⟨⟨s⟩⟩] (vForm [a] [x, y, z] p q true)) (hv : validB (colRaw [a]) (rowRaw [x, y, z]) = false) :
    Pure Tryd.prog J0 10 [.string ⟨⟨s⟩⟩] (vParse ⟨0, 0, false, false, errAddr⟩) :=
  pure_of (bF_ok h) 10 [] [false, false, true, false, true, true, true, false, true] (l := [(!validB (colRaw [a]) (rowRaw [x, y, z])) = true, false = false, ((0 : Int) ≤ 2 ∧ (2 : Nat) < 3), true = true, ((0 : Int) ≤ 1 ∧ (1 : Nat) < 3), true = true, ((0 : Int) ≤ 0 ∧ (0 : Nat) < 3), true = true, false = false, ((0 : Int) ≤ 0 ∧ (0 : Nat) < 1), true = true, false = false, (!true) = false, s = s]) (by kernel_rfl) (by refine ⟨by rw [hv]; rfl, ?_⟩; simp [allP])


set_option maxRecDepth 100000 in
theorem rp_14t (s : List UInt8) (a x y z u : UInt8) (p q : Bool) (h : Pure Tryd.prog J0 38 [.string ⟨⟨s⟩⟩] (vForm [a] [x, y, z, u] p q true)) (hv : validB (colRaw [a]) (rowRaw [x, y, z, u]) = true) :
    Pure Tryd.prog J0 10 [.string ⟨⟨s⟩⟩] (vParse ⟨colRaw [a], rowRaw [x, y, z, u], p, q, 0⟩) :=
  pure_of (bF_ok h) 10 [] [false, false, true, false, true, true, true, true, false, false] (l := [(!validB (colRaw [a]) (rowRaw [x, y, z, u])) = false, false = false, ((0 : Int) ≤ 3 ∧ (3 : Nat) < 4), true = true, ((0 : Int) ≤ 2 ∧ (2 : Nat) < 4), true = true, ((0 : Int) ≤ 1 ∧ (1 : Nat) < 4), true = true, ((0 : Int) ≤ 0 ∧ (0 : Nat) < 4), true = true, false = false, ((0 : Int) ≤ 0 ∧ (0 : Nat) < 1), true = true, false = false, (!true) = false, s = s]) (by kernel_rfl) (by refine ⟨by rw [hv]; rfl, ?_⟩; simp [allP])


set_option maxRecDepth 100000 in
theorem rp_14f (s : List UInt8) (a x y z u : UInt8) (p q : Bool) (h : Pure Tryd.prog J0 38 [.string ⟨⟨s⟩⟩] (vForm [a] [x, y, z, u] p q true)) (hv : validB (colRaw [a]) (rowRaw [x, y, z, u]) = false) :
    Pure Tryd.prog J0 10 [.string ⟨⟨s⟩⟩] (vParse ⟨0, 0, false, false, errAddr⟩) :=
  pure_of (bF_ok h) 10 [] [false, false, true, false, true, true, true, true, false, true] (l := [(!validB (colRaw [a]) (rowRaw [x, y, z, u])) = true, false = false, ((0 : Int) ≤ 3 ∧ (3 : Nat) < 4), true = true, ((0 : Int) ≤ 2 ∧ (2 : Nat) < 4), true = true, ((0 : Int) ≤ 1 ∧ (1 : Nat) < 4), true = true, ((0 : Int) ≤ 0 ∧ (0 : Nat) < 4), true = true, false = false, ((0 : Int) ≤ 0 ∧ (0 : Nat) < 1), true = true, false = false, (!true) = false, s = s]) (by kernel_rfl) (by refine ⟨by rw [hv]; rfl, ?_⟩; simp [allP])


set_option maxRecDepth 100000 in
theorem rp_21t (s : List UInt8) (a b x : UInt8) (p q : Bool) (h : Pure Tryd.prog J0 38 [.string ⟨⟨s⟩⟩] (vForm [a, b] [x] p q true)) (hv : validB (colRaw [a, b]) (rowRaw [x]) = true) :
    Pure Tryd.prog J0 10 [.string ⟨⟨s⟩⟩] (vParse ⟨colRaw [a, b], rowRaw [x], p, q, 0⟩) :=
  pure_of (bF_ok h) 10 [] [false, false, true, true, false, true, false, false] (l := [(!validB (colRaw [a, b]) (rowRaw [x])) = false, false = false, ((0 : Int) ≤ 0 ∧ (0 : Nat) < 1), true = true, false = false, ((0 : Int) ≤ 1 ∧ (1 : Nat) < 2), true = true, ((0 : Int) ≤ 0 ∧ (0 : Nat) < 2), true = true, false = false, (!true) = false, s = s]) (by kernel_rfl) (by refine ⟨by rw [hv]; rfl, ?_⟩; simp [allP])


set_option maxRecDepth 100000 in
theorem rp_21f (s : List UInt8) (a b x : UInt8) (p q : Bool) (h : Pure Tryd.prog J0 38 [.string ⟨⟨s⟩⟩] (vForm [a, b] [x] p q true)) (hv : validB (colRaw [a, b]) (rowRaw [x]) = false) :
    Pure Tryd.prog J0 10 [.string ⟨⟨s⟩⟩] (vParse ⟨0, 0, false, false, errAddr⟩) :=
  pure_of (bF_ok h) 10 [] [false, false, true, true, false, true, false, true] (l := [(!validB (colRaw [a, b]) (rowRaw [x])) = true, false = false, ((0 : Int) ≤ 0 ∧ (0 : Nat) < 1), true = true, false = false, ((0 : Int) ≤ 1 ∧ (1 : Nat) < 2), true = true, ((0 : Int) ≤ 0 ∧ (0 : Nat) < 2), true = true, false = false, (!true) = false, s = s]) (by kernel_rfl) (by refine ⟨by rw [hv]; rfl, ?_⟩; simp [allP])


set_option maxRecDepth 100000 in
theorem rp_22t (s : List UInt8) (a b x y : UInt8) (p q : Bool) (h : Pure Tryd.prog J0 38 [.string ⟨⟨s⟩⟩] (vForm [a, b] [x, y] p q true)) (hv : validB (colRaw [a, b]) (rowRaw [x, y]) = true) :
    Pure Tryd.prog J0 10 [.string ⟨⟨s⟩⟩] (vParse ⟨colRaw [a, b], rowRaw [x, y], p, q, 0⟩) :=
  pure_of (bF_ok h) 10 [] [false, false, true, true, false, true, true, false, false] (l := [(!validB (colRaw [a, b]) (rowRaw [x, y])) = false, false = false, ((0 : Int) ≤ 1 ∧ (1 : Nat) < 2), true = true, ((0 : Int) ≤ 0 ∧ (0 : Nat) < 2), true = true, false = false, ((0 : Int) ≤ 1 ∧ (1 : Nat) < 2), true = true, ((0 : Int) ≤ 0 ∧ (0 : Nat) < 2), true = true, false = false, (!true) = false, s = s]) (by kernel_rfl) (by refine ⟨by rw [hv]; rfl, ?_⟩; simp [allP])


set_option maxRecDepth 100000 in
theorem rp_22f (s : List UInt8) (a b x y : UInt8) (p q : Bool) (h : Pure Tryd.prog J0 38 [.string ⟨⟨s⟩⟩] (vForm [a, b] [x, y] p q true)) (hv : validB (colRaw [a, b]) (rowRaw [x, y]) = false) :
    Pure Tryd.prog J0 10 [.string ⟨⟨s⟩⟩] (vParse ⟨0, 0, false, false, errAddr⟩) :=
  pure_of (bF_ok h) 10 [] [false, false, true, true, false, true, true, false, true] (l := [(!validB (colRaw [a, b]) (rowRaw [x, y])) = true, false = false, ((0 : Int) ≤ 1 ∧ (1 : Nat) < 2), true = true, ((0 : Int) ≤ 0 ∧ (0 : Nat) < 2), true = true, false = false, ((0 : Int) ≤ 1 ∧ (1 : Nat) < 2), true = true, ((0 : Int) ≤ 0 ∧ (0 : Nat) < 2), true = true, false = false, (!true) = false, s = s]) (by kernel_rfl) (by refine ⟨by rw [hv]; rfl, ?_⟩; simp [allP])


set_option maxRecDepth 100000 in
theorem rp_23t (s : List UInt8) (a b x y z : UInt8) (p q : Bool) (h : Pure Tryd.prog J0 38 [.string ⟨⟨s⟩⟩] (vForm [a, b] [x, y, z] p q true)) (hv : validB (colRaw [a, b]) (rowRaw [x, y, z]) = true) :
    Pure Tryd.prog J0 10 [.string ⟨⟨s⟩⟩] (vParse ⟨colRaw [a, b], rowRaw [x, y, z], p, q, 0⟩) :=
  pure_of (bF_ok h) 10 [] [false, false, true, true, false, true, true, true, false, false] (l := [(!validB (colRaw [a, b]) (rowRaw [x, y, z])) = false, false = false, ((0 : Int) ≤ 2 ∧ (2 : Nat) < 3), true = true, ((0 : Int) ≤ 1 ∧ (1 : Nat) < 3), true = true, ((0 : Int) ≤ 0 ∧ (0 : Nat) < 3), true = true, false = false, ((0 : Int) ≤ 1 ∧ (1 : Nat) < 2), true = true, ((0 : Int) ≤ 0 ∧ (0 : Nat) < 2), true = true, false = false, (!true) = false, s = s]) (by kernel_rfl) (by refine ⟨by rw [hv]; rfl, ?_⟩; simp [allP])


set_option maxRecDepth 100000 in
theorem rp_23f (s : List UInt8) (a b x y z : UInt8) (p q : Bool) (h : Pure Tryd.prog J0 38 [.string ⟨⟨s⟩⟩] (vForm [a, b] [x, y, z] p q true)) (hv : validB (colRaw [a, b]) (rowRaw [x, y, z]) = false) :
    Pure Tryd.prog J0 10 [.string ⟨⟨s⟩⟩] (vParse ⟨0, 0, false, false, errAddr⟩) :=
  pure_of (bF_ok h) 10 [] [false, false, true, true, false, true, true, true, false, true] (l := [(!validB (colRaw [a, b]) (rowRaw [x, y, z])) = true, false = false, ((0 : Int) ≤ 2 ∧ (2 : Nat) < 3), true = true, ((0 : Int) ≤ 1 ∧ (1 : Nat) < 3), true = true, ((0 : Int) ≤ 0 ∧ (0 : Nat) < 3), true = true, false = false, ((0 : Int) ≤ 1 ∧ (1 : Nat) < 2), true = true, ((0 : Int) ≤ 0 ∧ (0 : Nat) < 2), true = true, false = false, (!true) = false, s = s]) (by kernel_rfl) (by refine ⟨by rw [hv]; rfl, ?_⟩; simp [allP])


set_option maxRecDepth 100000 in
theorem rp_24t (s : List UInt8) (a b x y z u : UInt8) (p q : Bool) (h : Pure Tryd.prog J0 38 [.string ⟨⟨s⟩⟩] (vForm [a, b] [x, y, z, u] p q true)) (hv : validB (colRaw [a, b]) (rowRaw [x, y, z, u]) = true) :
    Pure Tryd.prog J0 10 [.string ⟨⟨s⟩⟩] (vParse ⟨colRaw [a, b], rowRaw [x, y, z, u], p, q, 0⟩) :=
  pure_of (bF_ok h) 10 [] [false, false, true, true, false, true, true, true, true, false, false] (l := [(!validB (colRaw [a, b]) (rowRaw [x, y, z, u])) = false, false = false, ((0 : Int) ≤ 3 ∧ (3 : Nat) < 4), true = true, ((0 : Int) ≤ 2 ∧ (2 : Nat) < 4), true = true, ((0 : Int) ≤ 1 ∧ (1 : Nat) < 4), true = true, ((0 : Int) ≤ 0 ∧ (0 : Nat) < 4), true = true, false = false, ((0 : Int) ≤ 1 ∧ (1 : Nat) < 2), true = true, ((0 : Int) ≤ 0 ∧ (0 : Nat) < 2), true = true, false = false, (!true) = false, s = s]) (by kernel_rfl) (by refine ⟨by rw [hv]; rfl, ?_⟩; simp [allP])


set_option maxRecDepth 100000 in
theorem rp_24f (s : List UInt8) (a b x y z u : UInt8) (p q : Bool) (h : Pure Tryd.prog J0 38 [.string ⟨⟨s⟩⟩] (vForm [a, b] [x, y, z, u] p q true)) (hv : validB (colRaw [a, b]) (rowRaw [x, y, z, u]) = false) :
    Pure Tryd.prog J0 10 [.string ⟨⟨s⟩⟩] (vParse ⟨0, 0, false, false, errAddr⟩) :=
  pure_of (bF_ok h) 10 [] [false, false, true, true, false, true, true, true, true, false, true] (l := [(!validB (colRaw [a, b]) (rowRaw [x, y, z, u])) = true, false = false, ((0 : Int) ≤ 3 ∧ (3 : Nat) < 4), true = true, ((0 : Int) ≤ 2 ∧ (2 : Nat) < 4), true = true, ((0 : Int) ≤ 1 ∧ (1 : Nat) < 4), true = true, ((0 : Int) ≤ 0 ∧ (0 : Nat) < 4), true = true, false = false, ((0 : Int) ≤ 1 ∧ (1 : Nat) < 2), true = true, ((0 : Int) ≤ 0 ∧ (0 : Nat) < 2), true = true, false = false, (!true) = false, s = s]) (by kernel_rfl) (by refine ⟨by rw [hv]; rfl, ?_⟩; simp [allP])


set_option maxRecDepth 100000 in
theorem rp_form (s W d : List UInt8) (p q : Bool) (h : Pure Tryd.prog J0 38 [.string ⟨⟨s⟩⟩] (vForm W d p q false)) : Pure Tryd.prog J0 10 [.string ⟨⟨s⟩⟩] (vParse ⟨0, 0, false, false, errForm⟩) :=
  pure_of (bF_ok h) 10 [] [true] (l := [(!false) = true, s = s]) (by kernel_rfl) ⟨rfl, rfl, trivial⟩

set_option maxRecDepth 100000 in
theorem rp_long (s W d : List UInt8) (p q : Bool) (h : Pure Tryd.prog J0 38 [.string ⟨⟨s⟩⟩] (vForm W d p q true)) (hl : (decide ((W.length : Int) > 2) || decide ((d.length : Int) > 4)) = true) : Pure Tryd.prog J0 10 [.string ⟨⟨s⟩⟩] (vParse ⟨0, 0, false, false, errAddr⟩) :=
  pure_of (bF_ok h) 10 [] [false, true] (l := [(decide ((W.length : Int) > 2) || decide ((d.length : Int) > 4)) = true, (!true) = false, s = s]) (by kernel_rfl) ⟨hl, rfl, rfl, trivial⟩

theorem rp_short (s W d : List UInt8) (p q : Bool) (h : Pure Tryd.prog J0 38 [.string ⟨⟨s⟩⟩] (vForm W d p q true)) (hW : W ≠ []) (hd : d ≠ []) (h1 : W.length ≤ 2) (h2 : d.length ≤ 4) :
    Pure Tryd.prog J0 10 [.string ⟨⟨s⟩⟩] (vParse (if validB (colRaw W) (rowRaw d) then ⟨colRaw W, rowRaw d, p, q, 0⟩ else ⟨0, 0, false, false, errAddr⟩)) := by
  match W, d, hW, hd, h1, h2 with
  | [a], [x], _, _, _, _ =>
    cases hv : validB (colRaw [a]) (rowRaw [x])
    · exact rp_11f s a x p q h hv
    · exact rp_11t s a x p q h hv
  | [a], [x, y], _, _, _, _ =>
    cases hv : validB (colRaw [a]) (rowRaw [x, y])
    · exact rp_12f s a x y p q h hv
    · exact rp_12t s a x y p q h hv
  | [a], [x, y, z], _, _, _, _ =>
    cases hv : validB (colRaw [a]) (rowRaw [x, y, z])
    · exact rp_13f s a x y z p q h hv
    · exact rp_13t s a x y z p q h hv
  | [a], [x, y, z, u], _, _, _, _ =>
    cases hv : validB (colRaw [a]) (rowRaw [x, y, z, u])
    · exact rp_14f s a x y z u p q h hv
    · exact rp_14t s a x y z u p q h hv
  | [a, b], [x], _, _, _, _ =>
    cases hv : validB (colRaw [a, b]) (rowRaw [x])
    · exact rp_21f s a b x p q h hv
    · exact rp_21t s a b x p q h hv
  | [a, b], [x, y], _, _, _, _ =>
    cases hv : validB (colRaw [a, b]) (rowRaw [x, y])
    · exact rp_22f s a b x y p q h hv
    · exact rp_22t s a b x y p q h hv
  | [a, b], [x, y, z], _, _, _, _ =>
    cases hv : validB (colRaw [a, b]) (rowRaw [x, y, z])
    · exact rp_23f s a b x y z p q h hv
    · exact rp_23t s a b x y z p q h hv
  | [a, b], [x, y, z, u], _, _, _, _ =>
    cases hv : validB (colRaw [a, b]) (rowRaw [x, y, z, u])
    · exact rp_24f s a b x y z u p q h hv
    · exact rp_24t s a b x y z u p q h hv

/-- quadrilleref10.Parse: as addr.Parse. -/
theorem rparse_pure (s : List UInt8) (hs : s.length ≤ 9223372036854775807) : Pure Tryd.prog J0 10 [.string ⟨⟨s⟩⟩] (vParse (parseS s)) := by
  have hf := form_pure s hs
  rw [parse_eq]
  cases hok : (formS s).ok
  · rw [hok] at hf
    rw [if_neg (by simp)]
    exact rp_form s _ _ _ _ hf
  · obtain ⟨o1, o2, o3, o4, o5⟩ := form_ok hok
    rw [hok] at hf
    rw [if_pos rfl]
    cases hl : (decide (2 < (formS s).w.length) || decide (4 < (formS s).d.length))
    · rw [if_neg (by simp)]
      simp only [Bool.or_eq_false_iff, decide_eq_false_iff_not] at hl
      have := rp_short s _ _ _ _ hf (by simpa using o1) o2 (by simpa using (by omega : (formS s).w.length ≤ 2)) (by omega)
      rw [colRaw_eq o3 (by omega), rowRaw_eq o4 (by omega)] at this
      unfold finish
      simp only [if_true]
      exact this
    · rw [if_pos rfl]
      refine rp_long s _ _ _ _ hf ?_
      simp only [Bool.or_eq_true, decide_eq_true_eq] at hl ⊢
      rw [List.length_map]
      omega

end Go.Proofs.YthclpocignpfhaaDoor
