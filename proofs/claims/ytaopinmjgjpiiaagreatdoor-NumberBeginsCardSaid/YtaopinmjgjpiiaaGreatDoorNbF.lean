/-
  number.bare and number.Prefix of any text, as contracts: the longest bare text at the beginning.
-/
import Derived.Test.YtaopinmjgjpiiaaGreatDoorNbE
namespace Go.Proofs.YtaopinmjgjpiiaaGreatDoor
open Go Go.RowKit Ev

abbrev pcV (h : Bool) (s : List UInt8) (e n : Int) : Value := .agg ⟨[.bool h, .string ⟨⟨s⟩⟩, .int .i64 e, .int .i64 n]⟩
def h0B (t : List UInt8) : Bool := match decide ((t.length : Int) > 1) with | true => chI t 0 == 48 | false => false
def hxB (t : List UInt8) : Bool := match h0B t with | true => (match chI t 1 == 120 with | true => true | false => chI t 1 == 88) | false => false
def hP1 (t : List UInt8) : Prop := condP [(12, chI t 1 == 120), (8, h0B t), (3, decide ((t.length : Int) > 1))] [(12, false), (8, true)] → (0 : Int) ≤ 1 ∧ (1 : Int).toNat < t.length
def hP2 (t : List UInt8) : Prop := condP [(8, h0B t), (3, decide ((t.length : Int) > 1))] [(8, true)] → (0 : Int) ≤ 1 ∧ (1 : Int).toNat < t.length
def hP3 (t : List UInt8) : Prop := condP [(3, decide ((t.length : Int) > 1))] [(3, true)] → (0 : Int) ≤ 0 ∧ (0 : Int).toNat < t.length
def maQ (t : List UInt8) (a : Nat) : Prop := t.length < 9223372036854775807 ∧ Int.ofNat 0 ≤ Int.ofNat a ∧ a ≤ t.length
def exQ (t : List UInt8) (m : Nat) : Prop := t.length < 9223372036854775807 ∧ 2 < 4294967281 ∧ Int.ofNat 0 ≤ Int.ofNat m
abbrev pP : List UInt8 := [112, 80]
abbrev eE : List UInt8 := [101, 69]

section
variable (t : List UInt8)
set_option maxRecDepth 100000 in
theorem ba_hex : pureCall XNb2 [] 200 41 [.string ⟨⟨t⟩⟩] [true, true] = some (pcV true (maS t 2 16) (IntKind.i64.wrap (exV t pP (maE t 2 16) - IntKind.i64.wrap (Int.ofNat 4 * maB t 2 16))) (exE t pP (maE t 2 16)),
  [exQ t (maE t 2 16), (!(maS t 2 16 == ([] : List UInt8))) = true, maQ t 2, hxB t = true, hP1 t, hP2 t, hP3 t]) := by kernel_rfl
set_option maxRecDepth 100000 in
theorem ba_hno : pureCall XNb2 [] 200 41 [.string ⟨⟨t⟩⟩] [true, false, true] = some (pcV false [] 0 0,
  [(maS t 0 10 == ([] : List UInt8)) = true, maQ t 0, (!(maS t 2 16 == ([] : List UInt8))) = false, maQ t 2, hxB t = true, hP1 t, hP2 t, hP3 t]) := by kernel_rfl
set_option maxRecDepth 100000 in
theorem ba_hdc : pureCall XNb2 [] 200 41 [.string ⟨⟨t⟩⟩] [true, false, false] = some (pcV false (maS t 0 10) (IntKind.i64.wrap (exV t eE (maE t 0 10) - maB t 0 10)) (exE t eE (maE t 0 10)),
  [exQ t (maE t 0 10), (maS t 0 10 == ([] : List UInt8)) = false, maQ t 0, (!(maS t 2 16 == ([] : List UInt8))) = false, maQ t 2, hxB t = true, hP1 t, hP2 t, hP3 t]) := by kernel_rfl
set_option maxRecDepth 100000 in
theorem ba_no : pureCall XNb2 [] 200 41 [.string ⟨⟨t⟩⟩] [false, true] = some (pcV false [] 0 0,
  [(maS t 0 10 == ([] : List UInt8)) = true, maQ t 0, hxB t = false, hP1 t, hP2 t, hP3 t]) := by kernel_rfl
set_option maxRecDepth 100000 in
theorem ba_dc : pureCall XNb2 [] 200 41 [.string ⟨⟨t⟩⟩] [false, false] = some (pcV false (maS t 0 10) (IntKind.i64.wrap (exV t eE (maE t 0 10) - maB t 0 10)) (exE t eE (maE t 0 10)),
  [exQ t (maE t 0 10), (maS t 0 10 == ([] : List UInt8)) = false, maQ t 0, hxB t = false, hP1 t, hP2 t, hP3 t]) := by kernel_rfl
end

/-- Is it a number to the base 16? Then: its digits, its exponent, its end. -/
def bareH (t : List UInt8) : Bool := hxB t && !(maS t 2 16 == ([] : List UInt8))
def bareS (t : List UInt8) : List UInt8 := if bareH t = true then maS t 2 16 else maS t 0 10
def bareX (t : List UInt8) : Int := if bareH t = true then exV t pP (maE t 2 16) - 4 * maB t 2 16 else if maS t 0 10 = [] then 0 else exV t eE (maE t 0 10) - maB t 0 10
def bareN (t : List UInt8) : Nat := if bareH t = true then exE t pP (maE t 2 16) else if maS t 0 10 = [] then 0 else exE t eE (maE t 0 10)

theorem exV_range (t L : List UInt8) (a : Nat) : -1073741824 ≤ exV t L a ∧ exV t L a ≤ 1073741824 := by
  unfold exV
  split
  · omega
  rename_i hh
  split
  · omega
  have hlt : a < t.length := by
    have hh : hdB t L a = false := by simpa using hh
    unfold hdB at hh
    cases hg : geB t (a : Int) with
    | true => rw [hg] at hh; cases hh
    | false =>
      have : ¬((a : Int) ≥ (t.length : Int)) := of_decide_eq_false hg
      omega
  have hK : exK t a ≤ t.length := by
    unfold exK
    split
    · rename_i hs
      unfold sgB at hs
      cases hg : ltE t ((a + 1 : Nat) : Int) with
      | false => rw [hg] at hs; cases hs
      | true =>
        have : ((a + 1 : Nat) : Int) < (t.length : Int) := of_decide_eq_true hg
        omega
    · omega
  obtain ⟨_, _, r3, r4⟩ := exGo_spec t (t.length - exK t a) (exK t a) 0 (by omega) (by decide) (by decide)
  unfold exR
  split <;> omega
theorem maB_range {t : List UInt8} {a : Nat} {b : Int} (ha : a ≤ t.length) : 0 ≤ maB t a b ∧ maB t a b ≤ (t.length : Int) := by
  obtain ⟨r1, r2, r3, r4⟩ := ma_range (b := b) ha
  unfold maB
  split
  · omega
  · rcases r3 with r3 | r3 <;> omega

theorem hP_ok (t : List UInt8) : hP1 t ∧ hP2 t ∧ hP3 t := by
  have h8 : h0B t = true → 1 < t.length := fun h => by
    unfold h0B at h
    split at h
    · rename_i hd
      have := of_decide_eq_true hd
      omega
    · cases h
  refine ⟨fun hc => ⟨by decide, ?_⟩, fun hc => ⟨by decide, ?_⟩, fun hc => ⟨by decide, ?_⟩⟩
  · exact h8 (by simpa [condP, kvP] using hc.2)
  · exact h8 (by simpa [condP, kvP] using hc)
  · have : (t.length : Int) > 1 := by simpa [condP, kvP] using hc
    show 0 < t.length
    omega

theorem pc_cast {P : Program} {J : Ev.Inv P} {f : FuncId} {args : List Value} {h : Bool} {s : List UInt8} {e e' n : Int} (hp : Ev.Pure P J f args (pcV h s e n)) (he : e = e') : Ev.Pure P J f args (pcV h s e' n) := he ▸ hp
theorem bare_pure {t : List UInt8} (hl : t.length ≤ 140737488351232) : Ev.Pure Tryz.prog J0 41 [.string ⟨⟨t⟩⟩] (pcV (bareH t) (bareS t) (bareX t) (bareN t)) := by
  obtain ⟨p1, p2, p3⟩ := hP_ok t
  have hl' : t.length < 9223372036854775807 := by omega
  have q0 : maQ t 0 := ⟨hl', Int.le_refl _, Nat.zero_le _⟩
  have hx : ∀ m, exQ t m := fun m => ⟨hl', by decide, Int.natCast_nonneg _⟩
  have dec : ∀ (hm : ¬maS t 0 10 = []), IntKind.i64.wrap (exV t eE (maE t 0 10) - maB t 0 10) = exV t eE (maE t 0 10) - maB t 0 10 := fun _ => by
    have a1 := exV_range t eE (maE t 0 10)
    have a2 := maB_range (t := t) (b := 10) (Nat.zero_le _)
    rw [wr (by omega) (by omega)]
  unfold bareS bareX bareN
  cases hh : hxB t with
  | true =>
    have h2 : 2 ≤ t.length := by
      unfold hxB h0B at hh
      split at hh
      · rename_i hd
        split at hd
        · rename_i hd'
          have := of_decide_eq_true hd'
          omega
        · cases hd
      · cases hh
    have q2 : maQ t 2 := ⟨hl', by decide, h2⟩
    cases hm : (maS t 2 16 == ([] : List UInt8)) with
    | false =>
      rw [show bareH t = true by unfold bareH; rw [hh, hm]; rfl]
      simp only [if_true]
      refine pc_cast (pureN bNb2_ok (ba_hex t) ⟨hx _, by rw [hm]; rfl, q2, hh, p1, p2, p3, trivial⟩) ?_
      have a1 := exV_range t pP (maE t 2 16)
      have a2 := maB_range (t := t) (b := 16) h2
      rw [show (Int.ofNat 4 : Int) = 4 from rfl, wr (n := 4 * maB t 2 16) (by omega) (by omega), wr (by omega) (by omega)]
    | true =>
      rw [show bareH t = false by unfold bareH; rw [hh, hm]; rfl]
      simp only [Bool.false_eq_true, if_false]
      by_cases hs : maS t 0 10 = []
      · rw [if_pos hs, if_pos hs, hs]
        exact pureN bNb2_ok (ba_hno t) ⟨by rw [hs]; rfl, q0, by rw [hm]; rfl, q2, hh, p1, p2, p3, trivial⟩
      · rw [if_neg hs, if_neg hs]
        exact pc_cast (pureN bNb2_ok (ba_hdc t) ⟨hx _, beq_false_of_ne hs, q0, by rw [hm]; rfl, q2, hh, p1, p2, p3, trivial⟩) (dec hs)
  | false =>
    rw [show bareH t = false by unfold bareH; rw [hh]; rfl]
    simp only [Bool.false_eq_true, if_false]
    by_cases hs : maS t 0 10 = []
    · rw [if_pos hs, if_pos hs, hs]
      exact pureN bNb2_ok (ba_no t) ⟨by rw [hs]; rfl, q0, hh, p1, p2, p3, trivial⟩
    · rw [if_neg hs, if_neg hs]
      exact pc_cast (pureN bNb2_ok (ba_dc t) ⟨hx _, beq_false_of_ne hs, q0, hh, p1, p2, p3, trivial⟩) (dec hs)

def specBare : List Value → Option (Value × List Prop)
  | [.string ⟨⟨t⟩⟩] => some (pcV (bareH t) (bareS t) (bareX t) (bareN t), [t.length ≤ 140737488351232])
  | _ => none
theorem specBare_ok (args : List Value) (v : Value) (l : List Prop) (h : specBare args = some (v, l)) (hl : allP l) : Ev.Pure Tryz.prog J0 41 args v := by
  unfold specBare at h
  split at h
  · cases h; exact bare_pure hl.1
  · cases h
noncomputable def tabNb3 : Tab := tabAdd 41 specBare tabNb2
theorem tabNb3_ok : PcOk Tryz.prog J0 tabNb3 := tabAdd_ok specBare_ok tabNb2_ok
noncomputable def bNb3 : Base := ⟨Tryz.prog, J0, false, tabNb3, mtab0, 2000, xtN0⟩
theorem bNb3_ok : BaseOk bNb3 := ⟨progOk, tabNb3_ok, mtab0_ok _ _, xtN0_ok⟩
noncomputable abbrev XNb3 := bNb3.cx 12
theorem pf_way (t : List UInt8) : pureCall XNb3 [] 200 8 [.string ⟨⟨t⟩⟩] [] = some (.int .i64 (bareN t), [t.length ≤ 140737488351232]) := by kernel_rfl
/-- How many bytes the longest bare text at the beginning has. -/
theorem prefix_pure {t : List UInt8} (hl : t.length ≤ 140737488351232) : Ev.Pure Tryz.prog J0 8 [.string ⟨⟨t⟩⟩] (.int .i64 (bareN t)) :=
  pureN bNb3_ok (pf_way t) ⟨hl, trivial⟩

end Go.Proofs.YtaopinmjgjpiiaaGreatDoor
