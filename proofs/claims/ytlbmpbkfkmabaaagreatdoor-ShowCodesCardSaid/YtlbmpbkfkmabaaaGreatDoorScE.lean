/-
  Several texts in one (merge.py): RfA, RfB, ScA, ScB, RfC, RfD, ScC.
-/
import Derived.Test.YtlbmpbkfkmabaaaGreatDoorShK
import Derived.Test.YtlbmpbkfkmabaaaGreatDoorShM

/-
  The document's answer on formats: which may be; a small number's text (printed by semgen.py, but for the contracts).
-/
namespace Go.Proofs.YtlbmpbkfkmabaaaGreatDoor
open Go Go.RowKit Ev Sh

set_option maxRecDepth 100000 in
theorem rv_out (k p w : Int) (g : Bool) : pureCall XSh0 [] 200 24 [fm k p g w] [true] = some (Value.bool false, [(match match match decide (k < 1) with | true => true | false => decide (k > 5) with | true => true | false => decide (w < 0) with | true => true | false => decide (w > 64)) = true]) := by kernel_rfl
set_option maxRecDepth 100000 in
theorem rv_fr (k p w : Int) (g : Bool) : pureCall XSh0 [] 200 24 [fm k p g w] [false, true] = some (Value.bool (match match decide (p ≥ 1) with | true => decide (p ≤ 3) | false => false with | true => !g | false => false), [(k == Int.ofNat 5) = true, (match match match decide (k < 1) with | true => true | false => decide (k > 5) with | true => true | false => decide (w < 0) with | true => true | false => decide (w > 64)) = false]) := by kernel_rfl
set_option maxRecDepth 100000 in
theorem rv_no (k p w : Int) (g : Bool) : pureCall XSh0 [] 200 24 [fm k p g w] [false, false] = some (Value.bool (match match decide (p ≥ 0) with | true => decide (p ≤ 30) | false => false with | true => (match match k == 2 with | true => true | false => k == 4 with | true => true | false => !g) | false => false), [(k == Int.ofNat 5) = false, (match match match decide (k < 1) with | true => true | false => decide (k > 5) with | true => true | false => decide (w < 0) with | true => true | false => decide (w > 64)) = false]) := by kernel_rfl

theorem validR_pure (k p w : Int) (g : Bool) : Ev.Pure Tryz.prog J0 24 [fm k p g w] (.bool (valid k p g w)) := by
  by_cases h : 1 ≤ k ∧ k ≤ 5 ∧ 0 ≤ w ∧ w ≤ 64
  · obtain ⟨h1, h2, h3, h4⟩ := h
    have hk1 : decide (k < 1) = false := decide_eq_false (by omega)
    have hk2 : decide (k > 5) = false := decide_eq_false (by omega)
    have hw : decide (w < 0) = false := decide_eq_false (by omega)
    have hw' : decide (w > 64) = false := decide_eq_false (by omega)
    by_cases hf : k = 5
    · subst hf
      have := pure_call bSh0_ok (rv_fr 5 p w g) (by simp [allP, hw, hw'])
      refine cast (congrArg (fun b => Ev.Pure _ _ _ _ (.bool b)) ?_) this
      cases g <;> by_cases q : 1 ≤ p <;> by_cases q' : p ≤ 3 <;> simp [valid, Sh.least, most, commas, h3, h4, q, q']
    · have := pure_call bSh0_ok (rv_no k p w g) (by simp [allP, hw, hw', hk1, hk2, hf])
      refine cast (congrArg (fun b => Ev.Pure _ _ _ _ (.bool b)) ?_) this
      have : k = 1 ∨ k = 2 ∨ k = 3 ∨ k = 4 := by omega
      rcases this with rfl | rfl | rfl | rfl <;> cases g <;> by_cases q : 0 ≤ p <;> by_cases q' : p ≤ 30 <;> simp [valid, Sh.least, most, commas, h3, h4, q, q']
  · have hv : valid k p g w = false := by
      cases hv : valid k p g w with
      | false => rfl
      | true =>
        unfold valid at hv
        simp only [Bool.and_eq_true, decide_eq_true_eq] at hv
        exact absurd ⟨hv.1.1.1.1.1.1, hv.1.1.1.1.1.2, hv.1.1.1.1.2, hv.1.1.1.2⟩ h
    rw [hv]
    refine pure_call bSh0_ok (rv_out k p w g) ⟨?_, trivial⟩
    by_cases h1 : k < 1
    · simp [h1]
    by_cases h2 : k > 5
    · simp [h1, h2]
    by_cases h3 : w < 0
    · simp [h1, h2, h3]
    by_cases h4 : w > 64
    · simp [h1, h2, h3, h4]
    exact absurd ⟨by omega, by omega, by omega, by omega⟩ h

def specValidR : List Value → Option (Value × List Prop)
  | [.agg ⟨[.int .i64 k, .int .i64 p, .bool g, .int .i64 w]⟩] => some (.bool (valid k p g w), [])
  | _ => none
theorem specValidR_ok (args : List Value) (v : Value) (l : List Prop) (h : specValidR args = some (v, l)) (_ : allP l) : Ev.Pure Tryz.prog J0 24 args v := by
  unfold specValidR at h
  split at h
  · cases h; exact validR_pure _ _ _ _
  · cases h

/-! A number below 100. -/
theorem num_one (n : Int) : pureCall XSh0 [] 200 25 [.int .i64 n] [true] = some (.string ⟨⟨[UInt8.ofNat (IntKind.u8.wrap (IntKind.i64.wrap (Int.ofNat 48 + n))).toNat]⟩⟩, [decide (n < Int.ofNat 10) = true]) := by kernel_rfl
theorem wrap_small {n : Int} (h0 : 0 ≤ n) (h1 : n < 10) : UInt8.ofNat (IntKind.u8.wrap (IntKind.i64.wrap (Int.ofNat 48 + n))).toNat = UInt8.ofNat (48 + n.toNat) := by
  have : n = 0 ∨ n = 1 ∨ n = 2 ∨ n = 3 ∨ n = 4 ∨ n = 5 ∨ n = 6 ∨ n = 7 ∨ n = 8 ∨ n = 9 := by omega
  rcases this with rfl | rfl | rfl | rfl | rfl | rfl | rfl | rfl | rfl | rfl <;> rfl
def specNum1 : List Value → Option (Value × List Prop)
  | [.int .i64 n] => some (.string ⟨⟨[UInt8.ofNat (48 + n.toNat)]⟩⟩, [0 ≤ n ∧ n < 10])
  | _ => none
theorem specNum1_ok (args : List Value) (v : Value) (l : List Prop) (h : specNum1 args = some (v, l)) (hl : allP l) : Ev.Pure Tryz.prog J0 25 args v := by
  unfold specNum1 at h
  split at h
  · rename_i n
    cases h
    obtain ⟨h0, h1⟩ := hl.1
    have := pure_call bSh0_ok (num_one n) ⟨decide_eq_true h1, trivial⟩
    rw [wrap_small h0 h1] at this
    exact this
  · cases h
noncomputable def tabRf0 : Tab := tabAdd 25 specNum1 tabSh0
theorem tabRf0_ok : PcOk Tryz.prog J0 tabRf0 := tabAdd_ok specNum1_ok tabSh0_ok
noncomputable def bRf0 : Base := ⟨Tryz.prog, J0, false, tabRf0, mtabSh0, 2000, xtN0⟩
theorem bRf0_ok : BaseOk bRf0 := ⟨progOk, tabRf0_ok, mtabSh0_ok, xtN0_ok⟩

end Go.Proofs.YtlbmpbkfkmabaaaGreatDoor

/-
  The document's answer on formats: a format's code, as a contract.
-/
namespace Go.Proofs.YtlbmpbkfkmabaaaGreatDoor
open Go Go.RowKit Ev Sh

def numT (n : Int) : List UInt8 := Lib.decDigits n.toNat
set_option maxRecDepth 100000 in
theorem num_two (n : Int) : pureCall (bRf0.cx 12) [] 200 25 [.int .i64 n] [false] = some (.string ⟨⟨[UInt8.ofNat (48 + (IntKind.i64.wrap (n.tdiv (Int.ofNat 10))).toNat), UInt8.ofNat (IntKind.u8.wrap (IntKind.i64.wrap (Int.ofNat 48 + n.tmod (Int.ofNat 10)))).toNat]⟩⟩,
  [2 ≤ 9223372036854775807, Int.ofNat 0 ≤ IntKind.i64.wrap (n.tdiv (Int.ofNat 10)) ∧ IntKind.i64.wrap (n.tdiv (Int.ofNat 10)) < Int.ofNat 10, decide (n < Int.ofNat 10) = false]) := by kernel_rfl

def specNumR : List Value → Option (Value × List Prop)
  | [.int .i64 n] => some (.string ⟨⟨numT n⟩⟩, [0 ≤ n ∧ n < 100])
  | _ => none
theorem text_cast {P : Program} {J : Ev.Inv P} {f : FuncId} {args : List Value} {s s' : List UInt8} (h : Ev.Pure P J f args (.string ⟨⟨s⟩⟩)) (hs : s = s') : Ev.Pure P J f args (.string ⟨⟨s'⟩⟩) := hs ▸ h
theorem wrapI_nat {n : Nat} (h : n < 9223372036854775808) : IntKind.i64.wrap (n : Int) = (n : Int) := by
  have := IntKind.wrap_i64 (n : Int)
  omega
theorem tdiv_ten {n : Int} (h : 0 ≤ n) (h2 : n < 100) : IntKind.i64.wrap (n.tdiv 10) = ((n.toNat / 10 : Nat) : Int) := by
  obtain ⟨m, rfl⟩ := Int.eq_ofNat_of_zero_le h
  have hm : m < 100 := by omega
  show IntKind.i64.wrap ((m / 10 : Nat) : Int) = _
  rw [Int.toNat_natCast, wrapI_nat (by omega)]
theorem tmod_ten {n : Int} (h : 0 ≤ n) : n.tmod 10 = ((n.toNat % 10 : Nat) : Int) := by
  obtain ⟨m, rfl⟩ := Int.eq_ofNat_of_zero_le h
  rfl
theorem specNumR_ok (args : List Value) (v : Value) (l : List Prop) (h : specNumR args = some (v, l)) (hl : allP l) : Ev.Pure Tryz.prog J0 25 args v := by
  unfold specNumR at h
  split at h
  · rename_i n
    cases h
    obtain ⟨h0, h1⟩ := hl.1
    have e : numT n = d2 n.toNat := d2_eq (by omega)
    rw [e]
    by_cases hn : n < 10
    · refine text_cast (specNum1_ok [.int .i64 n] _ _ rfl ⟨⟨h0, hn⟩, trivial⟩) ?_
      unfold d2
      rw [if_pos (by omega)]
    · refine text_cast (pure_call bRf0_ok (num_two n) ⟨by decide, ?_, decide_eq_false hn, trivial⟩) ?_
      · rw [show (Int.ofNat 10 : Int) = 10 from rfl, tdiv_ten h0 h1]
        exact ⟨Int.natCast_nonneg _, by show ((n.toNat / 10 : Nat) : Int) < 10; omega⟩
      · unfold d2
        rw [if_neg (by omega), show (Int.ofNat 10 : Int) = 10 from rfl, tdiv_ten h0 h1, tmod_ten h0, wrap_small (Int.natCast_nonneg _) (by omega), Int.toNat_natCast, Int.toNat_natCast]
  · cases h

noncomputable def tabRf1 : Tab := tabAdd 25 specNumR (tabAdd 24 specValidR tabSh0)
theorem tabRf1_ok : PcOk Tryz.prog J0 tabRf1 := tabAdd_ok specNumR_ok (tabAdd_ok specValidR_ok tabSh0_ok)
noncomputable def bRf1 : Base := ⟨Tryz.prog, J0, false, tabRf1, mtabSh0, 2000, xtN0⟩
theorem bRf1_ok : BaseOk bRf1 := ⟨progOk, tabRf1_ok, mtabSh0_ok, xtN0_ok⟩
noncomputable abbrev XRf1 := bRf1.cx 12

def letT (k : Int) : List UInt8 := List.drop (IntKind.i64.wrap (k - Int.ofNat 1)).toNat (List.take k.toNat [103, 102, 115, 112, 113])
def letP (k : Int) : Prop := (Int.ofNat 0 ≤ k ∧ k ≤ Int.ofNat 5) ∧ Int.ofNat 0 ≤ IntKind.i64.wrap (k - Int.ofNat 1) ∧ IntKind.i64.wrap (k - Int.ofNat 1) ≤ k
set_option maxRecDepth 100000 in
theorem rc_bad (k p w : Int) (g : Bool) : pureCall XRf1 [] 200 8 [fm k p g w] [true] = some (.tuple ⟨[.string ⟨⟨[]⟩⟩, .int .i64 1]⟩, [(!valid k p g w) = true]) := by kernel_rfl
set_option maxRecDepth 100000 in
theorem rc_tt (k p w : Int) (g : Bool) : pureCall XRf1 [] 200 8 [fm k p g w] [false, true, true] = some (.tuple ⟨[.string ⟨⟨(((letT k ++ numT p) ++ [44]) ++ [58]) ++ numT w⟩⟩, .int .i64 0]⟩,
  [(((letT k ++ numT p) ++ [44]) ++ [58]).length + (numT w).length ≤ 9223372036854775807, 0 ≤ w ∧ w < 100, ((letT k ++ numT p) ++ [44]).length.succ ≤ 9223372036854775807, decide (0 < w) = true, (letT k ++ numT p).length.succ ≤ 9223372036854775807, g = true, (letT k).length + (numT p).length ≤ 9223372036854775807, 0 ≤ p ∧ p < 100, letP k, (!valid k p g w) = false]) := by kernel_rfl
set_option maxRecDepth 100000 in
theorem rc_tf (k p w : Int) (g : Bool) : pureCall XRf1 [] 200 8 [fm k p g w] [false, true, false] = some (.tuple ⟨[.string ⟨⟨(letT k ++ numT p) ++ [44]⟩⟩, .int .i64 0]⟩,
  [decide (0 < w) = false, (letT k ++ numT p).length.succ ≤ 9223372036854775807, g = true, (letT k).length + (numT p).length ≤ 9223372036854775807, 0 ≤ p ∧ p < 100, letP k, (!valid k p g w) = false]) := by kernel_rfl
set_option maxRecDepth 100000 in
theorem rc_ft (k p w : Int) (g : Bool) : pureCall XRf1 [] 200 8 [fm k p g w] [false, false, true] = some (.tuple ⟨[.string ⟨⟨((letT k ++ numT p) ++ [58]) ++ numT w⟩⟩, .int .i64 0]⟩,
  [((letT k ++ numT p) ++ [58]).length + (numT w).length ≤ 9223372036854775807, 0 ≤ w ∧ w < 100, (letT k ++ numT p).length.succ ≤ 9223372036854775807, decide (0 < w) = true, g = false, (letT k).length + (numT p).length ≤ 9223372036854775807, 0 ≤ p ∧ p < 100, letP k, (!valid k p g w) = false]) := by kernel_rfl
set_option maxRecDepth 100000 in
theorem rc_ff (k p w : Int) (g : Bool) : pureCall XRf1 [] 200 8 [fm k p g w] [false, false, false] = some (.tuple ⟨[.string ⟨⟨letT k ++ numT p⟩⟩, .int .i64 0]⟩,
  [decide (0 < w) = false, g = false, (letT k).length + (numT p).length ≤ 9223372036854775807, 0 ≤ p ∧ p < 100, letP k, (!valid k p g w) = false]) := by kernel_rfl

theorem let_one {k : Int} (h1 : 1 ≤ k) (h2 : k ≤ 5) : letT k = [letter k] ∧ letP k := by
  have : k = 1 ∨ k = 2 ∨ k = 3 ∨ k = 4 ∨ k = 5 := by omega
  rcases this with rfl | rfl | rfl | rfl | rfl <;> exact ⟨by decide, by unfold letP; decide⟩

theorem codeR_pure (k p w : Int) (g : Bool) : Ev.Pure Tryz.prog J0 8 [fm k p g w] (.tuple ⟨[.string ⟨⟨codeS k p g w⟩⟩, .int .i64 (codeE k p g w)]⟩) := by
  cases hv : valid k p g w with
  | false =>
    have := pure_call bRf1_ok (rc_bad k p w g) ⟨by rw [hv]; rfl, trivial⟩
    unfold codeS codeE
    rw [hv]
    exact this
  | true =>
    have e1 : codeS k p g w = code k p g w := by unfold codeS; rw [hv]; rfl
    have e2 : codeE k p g w = 0 := by unfold codeE; rw [hv]; rfl
    rw [e1, e2, code_eq]
    have h := hv
    unfold valid at h
    simp only [Bool.and_eq_true, decide_eq_true_eq] at h
    obtain ⟨⟨⟨⟨⟨⟨h1, h2⟩, h3⟩, h4⟩, h5⟩, h6⟩, h7⟩ := h
    have hp0 : 0 ≤ p := by unfold Sh.least at h5; split at h5 <;> omega
    have hp1 : p ≤ 30 := by unfold most at h6; split at h6 <;> omega
    have lp : (numT p).length ≤ 2 := dig_len (n := p.toNat) (by omega)
    have lw : (numT w).length ≤ 2 := dig_len (n := w.toNat) (by omega)
    obtain ⟨hl, hlp⟩ := let_one h1 h2
    have hpp : 0 ≤ p ∧ p < 100 := ⟨hp0, by omega⟩
    have hww : 0 ≤ w ∧ w < 100 := ⟨h3, by omega⟩
    by_cases hw : w = 0
    · have hb : decide (0 < w) = false := by simp [hw]
      rw [if_pos hw]
      cases g with
      | false => exact tup_cast (pure_call bRf1_ok (rc_ff k p w false) (by simp only [allP, hv, hb, hl, hlp, List.length_cons, List.length_nil, and_true, true_and, Bool.not_true]; omega)) (by simp [hl, numT])
      | true => exact tup_cast (pure_call bRf1_ok (rc_tf k p w true) (by simp only [allP, hv, hb, hl, hlp, List.length_cons, List.length_append, List.length_nil, and_true, true_and, Bool.not_true]; omega)) (by simp [hl, numT])
    · have hb : decide (0 < w) = true := decide_eq_true (by omega)
      rw [if_neg hw]
      cases g with
      | false => exact tup_cast (pure_call bRf1_ok (rc_ft k p w false) (by simp only [allP, hv, hb, hl, hlp, List.length_cons, List.length_append, List.length_nil, and_true, true_and, Bool.not_true]; omega)) (by simp [hl, numT])
      | true => exact tup_cast (pure_call bRf1_ok (rc_tt k p w true) (by simp only [allP, hv, hb, hl, hlp, List.length_cons, List.length_append, List.length_nil, and_true, true_and, Bool.not_true]; omega)) (by simp [hl, numT])

def specCodeR : List Value → Option (Value × List Prop)
  | [.agg ⟨[.int .i64 k, .int .i64 p, .bool g, .int .i64 w]⟩] => some (.tuple ⟨[.string ⟨⟨codeS k p g w⟩⟩, .int .i64 (codeE k p g w)]⟩, [])
  | _ => none
theorem specCodeR_ok (args : List Value) (v : Value) (l : List Prop) (h : specCodeR args = some (v, l)) (_ : allP l) : Ev.Pure Tryz.prog J0 8 args v := by
  unfold specCodeR at h
  split at h
  · cases h; exact codeR_pure _ _ _ _
  · cases h

end Go.Proofs.YtlbmpbkfkmabaaaGreatDoor

/-
  ShowCodes: the rounds of its two loops over the lists that are handed in; the law as a contract over them.
-/
namespace Go.Proofs.YtlbmpbkfkmabaaaGreatDoor
open Go Go.RowKit Ev Sh

/-- The document's Read answers as show.Read does. -/
def ReadR : Prop := ∀ (args : List Value) (v : Value) (l : List Prop), specReadF args = some (v, l) → allP l → Ev.Pure Tryz.prog J0 10 args v
noncomputable def tabSc : Tab := tabAdd 10 specReadF (tabAdd 8 specCodeR tabSh5)
theorem tabSc_ok (hk : Ev.Pure Tryz.prog J0 11 [] (.bool true)) (hr : ReadR) : PcOk Tryz.prog J0 tabSc := tabAdd_ok hr (tabAdd_ok specCodeR_ok (tabSh5_ok hk))
noncomputable def bSc : Base := ⟨Tryz.prog, J0, false, tabSc, mtabSh0, 2000, xtN0⟩
theorem bSc_ok (hk : Ev.Pure Tryz.prog J0 11 [] (.bool true)) (hr : ReadR) : BaseOk bSc := ⟨progOk, tabSc_ok hk hr, mtabSh0_ok, xtN0_ok⟩
noncomputable abbrev XSc := bSc.cx 12

/-- Formats by their number in a list. -/
structure FmF where
  k : Nat → Int
  p : Nat → Int
  g : Nat → Bool
  w : Nat → Int
abbrev gF (F : FmF) : Nat → Value := fun i => fm (F.k i) (F.p i) (F.g i) (F.w i)
abbrev gT (S : Nat → List UInt8) : Nat → Value := fun i => .string ⟨⟨S i⟩⟩
abbrev scA (F : FmF) (n o1 : Nat) (S : Nat → List UInt8) (m o2 : Nat) : List Arg := [.c (.f (gF F) n 4 o1), .c (.f (gT S) m 1 o2)]
def scH (F : FmF) (n o1 : Nat) (S : Nat → List UInt8) (m o2 : Nat) : Heap := [(11, .fam (gF F) n 4 o1), (13, .fam (gT S) m 1 o2)]
def scT (F : FmF) (n o1 : Nat) (S : Nat → List UInt8) (m o2 : Nat) (i : Int) : St := ⟨only 80 [(0, .slice (some ⟨11, o1, some 12⟩) n 0), (1, .slice (some ⟨13, o2, some 14⟩) m 0), (5, .int .i64 i)], scH F n o1 S m o2, 15, [], [], 0, none, [], 15⟩
def scT2 (F : FmF) (n o1 : Nat) (S : Nat → List UInt8) (m o2 : Nat) (i : Int) : St := ⟨only 80 [(0, .slice (some ⟨11, o1, some 12⟩) n 0), (1, .slice (some ⟨13, o2, some 14⟩) m 0), (10, .int .i64 i)], scH F n o1 S m o2, 15, [], [], 0, none, [], 15⟩
noncomputable def cSc : Code := loopAt Tryz.prog 3 0
noncomputable def cSd : Code := loopAt Tryz.prog 3 1

def scC (F : FmF) (j : Nat) : Bool := match !(codeS (F.k j) (F.p j) (F.g j) (F.w j) == codeS (F.k j) (F.p j) (F.g j) (F.w j)) with | true => true | false => codeE (F.k j) (F.p j) (F.g j) (F.w j) != codeE (F.k j) (F.p j) (F.g j) (F.w j)
theorem scC_no (F : FmF) (j : Nat) : scC F j = false := by unfold scC; simp
def scD (s : List UInt8) : Bool := match !(rk s == rk s && (rp s == rp s && (rg s == rg s && (rw' s == rw' s && true)))) with | true => true | false => re s != re s
theorem scD_no (s : List UInt8) : scD s = false := by unfold scD; simp
def ltB (i : Nat) (m : Nat) : Bool := match decide (Int.ofNat i < Int.ofNat m) with | true => decide (Int.ofNat i < 40) | false => false

def sc_l (F : FmF) (n o1 i : Nat) : List Prop := [scC F (famAt (addO o1 (i * 4)) o1 4) = false, FamIn (addO o1 (i * 4)) o1 4 n, (Int.ofNat 0 ≤ Int.ofNat i ∧ Int.ofNat i < Int.ofNat n) ∧ 0 < n,
  FamIn (addO o1 (i * 4)) o1 4 n, (Int.ofNat 0 ≤ Int.ofNat i ∧ Int.ofNat i < Int.ofNat n) ∧ 0 < n, decide (Int.ofNat i < Int.ofNat n) = true]
def sd_l (S : Nat → List UInt8) (m o2 i : Nat) : List Prop := [scD (S (famAt (addO o2 i) o2 1)) = false, (S (famAt (addO o2 i) o2 1)).length ≤ 281474976710656, FamIn (addO o2 i) o2 1 m, (Int.ofNat 0 ≤ Int.ofNat i ∧ Int.ofNat i < Int.ofNat m) ∧ 0 < m,
  (S (famAt (addO o2 i) o2 1)).length ≤ 281474976710656, FamIn (addO o2 i) o2 1 m, (Int.ofNat 0 ≤ Int.ofNat i ∧ Int.ofNat i < Int.ofNat m) ∧ 0 < m, ltB i m = true]

section
variable (F : FmF) (n o1 : Nat) (S : Nat → List UInt8) (m o2 i : Nat)
set_option maxRecDepth 100000 in
theorem sc_go : obsOf (stepR XSc [] 200 cSc [true, false] [] (scT F n o1 S m o2 (i : Int)) .normal (scT F n o1 S m o2 (IntKind.i64.wrap ((i : Int) + 1)))) = sc_l F n o1 i := by kernel_rfl
set_option maxRecDepth 100000 in
theorem sc_go_x : xsOf (stepR XSc [] 200 cSc [true, false] [] (scT F n o1 S m o2 (i : Int)) .normal (scT F n o1 S m o2 (IntKind.i64.wrap ((i : Int) + 1)))) = ysOf (stepR XSc [] 200 cSc [true, false] [] (scT F n o1 S m o2 (i : Int)) .normal (scT F n o1 S m o2 (IntKind.i64.wrap ((i : Int) + 1)))) := by kernel_rfl
set_option maxRecDepth 100000 in
theorem sc_go_o : osOf (stepR XSc [] 200 cSc [true, false] [] (scT F n o1 S m o2 (i : Int)) .normal (scT F n o1 S m o2 (IntKind.i64.wrap ((i : Int) + 1)))) = qsOf (stepR XSc [] 200 cSc [true, false] [] (scT F n o1 S m o2 (i : Int)) .normal (scT F n o1 S m o2 (IntKind.i64.wrap ((i : Int) + 1)))) := by kernel_rfl
set_option maxRecDepth 100000 in
theorem sc_end : obsOf (stepR XSc [] 200 cSc [false] [] (scT F n o1 S m o2 (i : Int)) (.exit 0) (scT F n o1 S m o2 (i : Int))) = [decide (Int.ofNat i < Int.ofNat n) = false] := by kernel_rfl
set_option maxRecDepth 100000 in
theorem sc_end_x : xsOf (stepR XSc [] 200 cSc [false] [] (scT F n o1 S m o2 (i : Int)) (.exit 0) (scT F n o1 S m o2 (i : Int))) = ysOf (stepR XSc [] 200 cSc [false] [] (scT F n o1 S m o2 (i : Int)) (.exit 0) (scT F n o1 S m o2 (i : Int))) := by kernel_rfl
set_option maxRecDepth 100000 in
theorem sc_end_o : osOf (stepR XSc [] 200 cSc [false] [] (scT F n o1 S m o2 (i : Int)) (.exit 0) (scT F n o1 S m o2 (i : Int))) = qsOf (stepR XSc [] 200 cSc [false] [] (scT F n o1 S m o2 (i : Int)) (.exit 0) (scT F n o1 S m o2 (i : Int))) := by kernel_rfl
set_option maxRecDepth 100000 in
theorem sd_go : obsOf (stepR XSc [] 200 cSd [true, false] [] (scT2 F n o1 S m o2 (i : Int)) .normal (scT2 F n o1 S m o2 (IntKind.i64.wrap ((i : Int) + 1)))) = sd_l S m o2 i := by kernel_rfl
set_option maxRecDepth 100000 in
theorem sd_go_x : xsOf (stepR XSc [] 200 cSd [true, false] [] (scT2 F n o1 S m o2 (i : Int)) .normal (scT2 F n o1 S m o2 (IntKind.i64.wrap ((i : Int) + 1)))) = ysOf (stepR XSc [] 200 cSd [true, false] [] (scT2 F n o1 S m o2 (i : Int)) .normal (scT2 F n o1 S m o2 (IntKind.i64.wrap ((i : Int) + 1)))) := by kernel_rfl
set_option maxRecDepth 100000 in
theorem sd_go_o : osOf (stepR XSc [] 200 cSd [true, false] [] (scT2 F n o1 S m o2 (i : Int)) .normal (scT2 F n o1 S m o2 (IntKind.i64.wrap ((i : Int) + 1)))) = qsOf (stepR XSc [] 200 cSd [true, false] [] (scT2 F n o1 S m o2 (i : Int)) .normal (scT2 F n o1 S m o2 (IntKind.i64.wrap ((i : Int) + 1)))) := by kernel_rfl
set_option maxRecDepth 100000 in
theorem sd_end : obsOf (stepR XSc [] 200 cSd [false] [] (scT2 F n o1 S m o2 (i : Int)) (.exit 2) (scT2 F n o1 S m o2 (i : Int))) = [ltB i m = false] := by kernel_rfl
set_option maxRecDepth 100000 in
theorem sd_end_x : xsOf (stepR XSc [] 200 cSd [false] [] (scT2 F n o1 S m o2 (i : Int)) (.exit 2) (scT2 F n o1 S m o2 (i : Int))) = ysOf (stepR XSc [] 200 cSd [false] [] (scT2 F n o1 S m o2 (i : Int)) (.exit 2) (scT2 F n o1 S m o2 (i : Int))) := by kernel_rfl
set_option maxRecDepth 100000 in
theorem sd_end_o : osOf (stepR XSc [] 200 cSd [false] [] (scT2 F n o1 S m o2 (i : Int)) (.exit 2) (scT2 F n o1 S m o2 (i : Int))) = qsOf (stepR XSc [] 200 cSd [false] [] (scT2 F n o1 S m o2 (i : Int)) (.exit 2) (scT2 F n o1 S m o2 (i : Int))) := by kernel_rfl
end

end Go.Proofs.YtlbmpbkfkmabaaaGreatDoor

/-
  ShowCodes as a contract over what the two lists hold.
-/
namespace Go.Proofs.YtlbmpbkfkmabaaaGreatDoor
open Go Go.RowKit Ev Sh

theorem wrap_next {n : Nat} (h : n < 9223372036854775807) : IntKind.i64.wrap ((n : Int) + 1) = ((n + 1 : Nat) : Int) := by
  have := IntKind.wrap_i64 ((n : Int) + 1)
  omega

section
variable (hk : Ev.Pure Tryz.prog J0 11 [] (.bool true)) (hr : ReadR) (F : FmF) (n o1 : Nat) (S : Nat → List UInt8) (m o2 : Nat) (hn : n ≤ 9223372036854775807) (hm : m < 9223372036854775807) (hS : ∀ i, i < m → (S i).length ≤ 281474976710656)
include hk hr

theorem sc_step (i : Nat) (hi : i < n) (hn : n ≤ 9223372036854775807) : Step XSc cSc (scT F n o1 S m o2 (i : Int)) .normal (scT F n o1 S m o2 ((i + 1 : Nat) : Int)) := by
  have h := step_of (Base.cx_ok (bSc_ok hk hr) 12).1 progOk.mixed [] 200 [true, false] [] (sc_go F n o1 S m o2 i) (by
    have hin : FamIn (addO o1 (i * 4)) o1 4 n := by rw [addO_eq]; exact famIn_mul (by decide) hi
    have hb : (Int.ofNat 0 ≤ Int.ofNat i ∧ Int.ofNat i < Int.ofNat n) ∧ 0 < n := ⟨⟨Int.natCast_nonneg _, Int.ofNat_lt.2 hi⟩, by omega⟩
    exact ⟨scC_no _ _, hin, hb, hin, hb, decide_eq_true (Int.ofNat_lt.2 hi), trivial⟩) (sc_go_x F n o1 S m o2 i) (sc_go_o F n o1 S m o2 i)
  rw [wrap_next (by omega)] at h
  exact h

theorem sc_loop (hn : n ≤ 9223372036854775807) : LoopTo XSc cSc (scT F n o1 S m o2 ((0 : Nat) : Int)) (.exit 0) (scT F n o1 S m o2 (n : Int)) :=
  loop_run (fun i => scT F n o1 S m o2 (i : Int)) n (by intro e; cases e) (fun i hi => sc_step hk hr F n o1 S m o2 i hi hn)
    (step_of (Base.cx_ok (bSc_ok hk hr) 12).1 progOk.mixed [] 200 [false] [] (sc_end F n o1 S m o2 n) ⟨decide_eq_false (Int.lt_irrefl _), trivial⟩ (sc_end_x F n o1 S m o2 n) (sc_end_o F n o1 S m o2 n))

theorem sd_step (i : Nat) (hi : i < m) (h4 : i < 40) (hs : (S i).length ≤ 281474976710656) : Step XSc cSd (scT2 F n o1 S m o2 (i : Int)) .normal (scT2 F n o1 S m o2 ((i + 1 : Nat) : Int)) := by
  have h := step_of (Base.cx_ok (bSc_ok hk hr) 12).1 progOk.mixed [] 200 [true, false] [] (sd_go F n o1 S m o2 i) (by
    have hin : FamIn (addO o2 i) o2 1 m := by
      have := famIn_mul (o := o2) (sz := 1) (by decide) hi
      rw [Nat.mul_one] at this
      rw [addO_eq]
      exact this
    have hat : famAt (addO o2 i) o2 1 = i := by
      have := famAt_mul (o := o2) (i := i) (sz := 1) (by decide)
      rw [Nat.mul_one] at this
      rw [addO_eq]
      exact this
    have hb : (Int.ofNat 0 ≤ Int.ofNat i ∧ Int.ofNat i < Int.ofNat m) ∧ 0 < m := ⟨⟨Int.natCast_nonneg _, Int.ofNat_lt.2 hi⟩, by omega⟩
    have hl : (S (famAt (addO o2 i) o2 1)).length ≤ 281474976710656 := by rw [hat]; exact hs
    have hlt : ltB i m = true := by
      unfold ltB
      rw [show decide (Int.ofNat i < Int.ofNat m) = true from decide_eq_true (Int.ofNat_lt.2 hi)]
      exact decide_eq_true (show ((i : Nat) : Int) < 40 by omega)
    exact ⟨scD_no _, hl, hin, hb, hl, hin, hb, hlt, trivial⟩) (sd_go_x F n o1 S m o2 i) (sd_go_o F n o1 S m o2 i)
  rw [wrap_next (by omega)] at h
  exact h

theorem sd_loop (hS : ∀ i, i < m → (S i).length ≤ 281474976710656) : LoopTo XSc cSd (scT2 F n o1 S m o2 ((0 : Nat) : Int)) (.exit 2) (scT2 F n o1 S m o2 ((min m 40 : Nat) : Int)) :=
  loop_run (fun i => scT2 F n o1 S m o2 (i : Int)) (min m 40) (by intro e; cases e) (fun i hi => sd_step hk hr F n o1 S m o2 i (by omega) (by omega) (hS i (by omega)))
    (step_of (Base.cx_ok (bSc_ok hk hr) 12).1 progOk.mixed [] 200 [false] [] (sd_end F n o1 S m o2 (min m 40)) ⟨by
      unfold ltB
      by_cases h : m ≤ 40
      · rw [Nat.min_eq_left h, decide_eq_false (Int.lt_irrefl _)]
      · rw [Nat.min_eq_right (by omega)]
        split <;> rfl, trivial⟩ (sd_end_x F n o1 S m o2 (min m 40)) (sd_end_o F n o1 S m o2 (min m 40)))
end

def sdS (F : FmF) (n o1 : Nat) (S : Nat → List UInt8) (m o2 : Nat) : St := ⟨only 80 [(0, .slice (some ⟨11, o1, some 12⟩) n 0), (1, .slice (some ⟨13, o2, some 14⟩) m 0), (5, .int .i64 (n : Int)), (10, .int .i64 ((0 : Nat) : Int))], scH F n o1 S m o2, 15, [], [], 0, none, [], 15⟩
set_option maxRecDepth 100000 in
theorem sc_way (F : FmF) (n o1 : Nat) (S : Nat → List UInt8) (m o2 j : Nat) : semR XSc [told (.exit 0) (fun _ => scT F n o1 S m o2 (n : Int)), told (.exit 2) (fun _ => scT2 F n o1 S m o2 (j : Int))] bSc.fuel 3 (scA F n o1 S m o2) [.c (.v (.bool true))] [] =
  some [LoopTo XSc cSd (sdS F n o1 S m o2) (.exit 2) (scT2 F n o1 S m o2 (j : Int)), LoopTo XSc cSc (semStart XSc 200 3 (scA F n o1 S m o2) []) (.exit 0) (scT F n o1 S m o2 (n : Int)), Value.bool true = Value.bool true] := by kernel_rfl
theorem sc_into (F : FmF) (n o1 : Nat) (S : Nat → List UInt8) (m o2 : Nat) {x : AX} {s' : St} (h : LoopTo XSc cSc (scT F n o1 S m o2 ((0 : Nat) : Int)) x s') : LoopTo XSc cSc (semStart XSc 200 3 (scA F n o1 S m o2) []) x s' :=
  loop_into' h [] (by kernel_rfl) (by kernel_rfl) (by kernel_rfl)
theorem sd_into (F : FmF) (n o1 : Nat) (S : Nat → List UInt8) (m o2 : Nat) {x : AX} {s' : St} (h : LoopTo XSc cSd (scT2 F n o1 S m o2 ((0 : Nat) : Int)) x s') : LoopTo XSc cSd (sdS F n o1 S m o2) x s' :=
  loop_into' h [] (by kernel_rfl) (by kernel_rfl) (by kernel_rfl)

/-- Of any formats and any texts the law answers true. -/
theorem showCodes_sem (hk : Ev.Pure Tryz.prog J0 11 [] (.bool true)) (hr : ReadR) (F : FmF) (n o1 : Nat) (S : Nat → List UInt8) (m o2 : Nat) (hn : n ≤ 9223372036854775807) (hS : ∀ i, i < m → (S i).length ≤ 281474976710656) :
    Ev.Sem Tryz.prog J0 3 (scA F n o1 S m o2) [.c (.v (.bool true))] :=
  sem_of (bSc_ok hk hr) 12 _ _ (sc_way F n o1 S m o2 (min m 40)) ⟨sd_into F n o1 S m o2 (sd_loop hk hr F n o1 S m o2 hS), sc_into F n o1 S m o2 (sc_loop hk hr F n o1 S m o2 hn), rfl, trivial⟩

end Go.Proofs.YtlbmpbkfkmabaaaGreatDoor

/-
  The document's Read of formats: the rounds of its loops.
-/
namespace Go.Proofs.YtlbmpbkfkmabaaaGreatDoor
open Go Go.RowKit Ev Sh

noncomputable def tabRd : Tab := tabAdd 8 specCodeR tabRf1
theorem tabRd_ok : PcOk Tryz.prog J0 tabRd := tabAdd_ok specCodeR_ok tabRf1_ok
noncomputable def bRd : Base := ⟨Tryz.prog, J0, false, tabRd, mtabSh0, 2000, xtN0⟩
theorem bRd_ok : BaseOk bRd := ⟨progOk, tabRd_ok, mtabSh0_ok, xtN0_ok⟩
noncomputable abbrev XRd := bRd.cx 12
noncomputable def cRk : Code := loopAt Tryz.prog 10 0
noncomputable def cRn : Code := loopAt Tryz.prog 10 1
noncomputable def cRw : Code := loopAt Tryz.prog 10 2

noncomputable def rS (tm : List (Nat × Value)) (f : List Value) : St := ⟨only 58 tm, [(11, .cells f 28)] ++ J0.tabs, 12, [], [], 0, none, [], 11⟩
def rZ : List Value := [.int .i64 0, .int .i64 0, .bool false, .int .i64 0]
noncomputable def rK (t : List UInt8) (k : Int) : St := rS [(0, .string ⟨⟨t⟩⟩), (2, .pointer (some ⟨11, 0, none⟩)), (3, .int .i64 0), (4, .int .i64 k)] rZ
noncomputable def rN (t : List UInt8) (k n : Int) : St := rS [(0, .string ⟨⟨t⟩⟩), (2, .pointer (some ⟨11, 0, none⟩)), (3, .int .i64 0), (4, .int .i64 k), (5, .int .i64 n)] rZ
noncomputable def rW (t : List UInt8) (k n w : Int) : St := rS [(0, .string ⟨⟨t⟩⟩), (2, .pointer (some ⟨11, 0, none⟩)), (3, .int .i64 0), (4, .int .i64 k), (5, .int .i64 n), (6, .int .i64 w)] rZ
/-- Found. -/
noncomputable def rR (k n : Int) (g : Bool) (w : Int) : St := rS [(2, .pointer (some ⟨11, 0, none⟩)), (3, .int .i64 0)] [.int .i64 k, .int .i64 n, .bool g, .int .i64 w]
/-- Where the inner loops begin. -/
noncomputable def rW0 (t : List UInt8) (k n : Int) : St := rS [(0, .string ⟨⟨t⟩⟩), (2, .pointer (some ⟨11, 0, none⟩)), (3, .int .i64 0), (4, .int .i64 k), (5, .int .i64 n), (6, .int .i64 0), (26, .int .i64 n), (27, .bool (decide (n ≤ Int.ofNat 30)))] rZ

def hitB (t : List UInt8) (k n : Int) (g : Bool) (w : Int) : Bool := match codeE k n g w == 0 with | true => codeS k n g w == t | false => false
def lenB (t : List UInt8) (k : Int) : Bool := match decide (k ≤ 5) with | true => decide ((t.length : Int) > 0) | false => false
def letB (t : List UInt8) (k : Int) : Bool := Int.ofNat (([103, 102, 115, 112, 113] : List UInt8).getD (IntKind.i64.wrap (k - 1)).toNat 0).toNat != Int.ofNat (t.getD 0 0).toNat
noncomputable def rN0 (t : List UInt8) (k : Int) : St := rS [(0, .string ⟨⟨t⟩⟩), (2, .pointer (some ⟨11, 0, none⟩)), (3, .int .i64 0), (4, .int .i64 k), (5, .int .i64 0), (11, .int .i64 k), (12, .bool (decide (k ≤ Int.ofNat 5))), (13, .bool (decide (k ≤ Int.ofNat 5))), (17, .bool (lenB t k)), (20, .int .i64 k), (21, .int .i64 (IntKind.i64.wrap (k - Int.ofNat 1))),
  (22, .int .u8 (Int.ofNat (([103, 102, 115, 112, 113] : List UInt8).getD (IntKind.i64.wrap (k - 1)).toNat 0).toNat)), (23, .string ⟨⟨t⟩⟩), (24, .int .u8 (Int.ofNat (t.getD 0 0).toNat)), (25, .bool (letB t k))] rZ

section
variable (t : List UInt8) (k n w : Int)
set_option maxRecDepth 100000 in
theorem rw_go (hl : allP [false = false, hitB t k n true w = false, true = true, hitB t k n false w = false, true = true, decide (w ≤ Int.ofNat 64) = true]) : Step XRd cRw (rW t k n w) .normal (rW t k n (IntKind.i64.wrap (w + 1))) :=
  step_of (Base.cx_ok bRd_ok 12).1 progOk.mixed [] 200 [true, true, false, true, false, false] [] (by kernel_rfl) hl (by kernel_rfl) (by kernel_rfl)
set_option maxRecDepth 100000 in
theorem rw_end (hl : allP [decide (w ≤ Int.ofNat 64) = false]) : Step XRd cRw (rW t k n w) (.exit 4) (rN t k n) :=
  step_of (Base.cx_ok bRd_ok 12).1 progOk.mixed [] 200 [false] [] (by kernel_rfl) hl (by kernel_rfl) (by kernel_rfl)
set_option maxRecDepth 100000 in
theorem rw_f (hl : allP [hitB t k n false w = true, true = true, decide (w ≤ Int.ofNat 64) = true]) : Step XRd cRw (rW t k n w) .ret (rR k n false w) :=
  step_of (Base.cx_ok bRd_ok 12).1 progOk.mixed [] 200 [true, true, true] [] (by kernel_rfl) hl (by kernel_rfl) (by kernel_rfl)
set_option maxRecDepth 100000 in
theorem rw_t (hl : allP [hitB t k n true w = true, true = true, hitB t k n false w = false, true = true, decide (w ≤ Int.ofNat 64) = true]) : Step XRd cRw (rW t k n w) .ret (rR k n true w) :=
  step_of (Base.cx_ok bRd_ok 12).1 progOk.mixed [] 200 [true, true, false, true, true] [] (by kernel_rfl) hl (by kernel_rfl) (by kernel_rfl)

set_option maxRecDepth 100000 in
theorem rn_go (hl : allP [LoopTo XRd cRw (rW0 t k n) (.exit 4) (rN t k n), decide (n ≤ Int.ofNat 30) = true]) : Step XRd cRn (rN t k n) .normal (rN t k (IntKind.i64.wrap (n + 1))) :=
  step_of (Base.cx_ok bRd_ok 12).1 progOk.mixed [told (.exit 4) (fun _ => rN t k n)] 200 [true] [] (by kernel_rfl) hl (by kernel_rfl) (by kernel_rfl)
set_option maxRecDepth 100000 in
theorem rn_hit (g : Bool) (hl : allP [LoopTo XRd cRw (rW0 t k n) .ret (rR k n g w), decide (n ≤ Int.ofNat 30) = true]) : Step XRd cRn (rN t k n) .ret (rR k n g w) :=
  step_of (Base.cx_ok bRd_ok 12).1 progOk.mixed [told .ret (fun _ => rR k n g w)] 200 [true] [] (by kernel_rfl) hl (by kernel_rfl) (by kernel_rfl)
set_option maxRecDepth 100000 in
theorem rn_end (hl : allP [decide (n ≤ Int.ofNat 30) = false]) : Step XRd cRn (rN t k n) (.exit 2) (rK t k) :=
  step_of (Base.cx_ok bRd_ok 12).1 progOk.mixed [] 200 [false] [] (by kernel_rfl) hl (by kernel_rfl) (by kernel_rfl)

set_option maxRecDepth 100000 in
theorem rk_skip (hl : allP [letB t k = true, Int.ofNat 0 ≤ Int.ofNat 0 ∧ 0 < t.length, Int.ofNat 0 ≤ IntKind.i64.wrap (k - Int.ofNat 1) ∧ (IntKind.i64.wrap (k - Int.ofNat 1)).toNat < 5, lenB t k = true]) : Step XRd cRk (rK t k) .normal (rK t (IntKind.i64.wrap (k + 1))) :=
  step_of (Base.cx_ok bRd_ok 12).1 progOk.mixed [] 200 [true, true] [] (by kernel_rfl) hl (by kernel_rfl) (by kernel_rfl)
set_option maxRecDepth 100000 in
theorem rk_in (hl : allP [LoopTo XRd cRn (rN0 t k) (.exit 2) (rK t k), letB t k = false, Int.ofNat 0 ≤ Int.ofNat 0 ∧ 0 < t.length, Int.ofNat 0 ≤ IntKind.i64.wrap (k - Int.ofNat 1) ∧ (IntKind.i64.wrap (k - Int.ofNat 1)).toNat < 5, lenB t k = true]) : Step XRd cRk (rK t k) .normal (rK t (IntKind.i64.wrap (k + 1))) :=
  step_of (Base.cx_ok bRd_ok 12).1 progOk.mixed [told (.exit 2) (fun _ => rK t k)] 200 [true, false] [] (by kernel_rfl) hl (by kernel_rfl) (by kernel_rfl)
set_option maxRecDepth 100000 in
theorem rk_hit (g : Bool) (hl : allP [LoopTo XRd cRn (rN0 t k) .ret (rR k n g w), letB t k = false, Int.ofNat 0 ≤ Int.ofNat 0 ∧ 0 < t.length, Int.ofNat 0 ≤ IntKind.i64.wrap (k - Int.ofNat 1) ∧ (IntKind.i64.wrap (k - Int.ofNat 1)).toNat < 5, lenB t k = true]) : Step XRd cRk (rK t k) .ret (rR k n g w) :=
  step_of (Base.cx_ok bRd_ok 12).1 progOk.mixed [told .ret (fun _ => rR k n g w)] 200 [true, false] [] (by kernel_rfl) hl (by kernel_rfl) (by kernel_rfl)
set_option maxRecDepth 100000 in
theorem rk_end (hl : allP [lenB t k = false]) : Step XRd cRk (rK t k) (.exit 0) (rK t k) :=
  step_of (Base.cx_ok bRd_ok 12).1 progOk.mixed [] 200 [false] [] (by kernel_rfl) hl (by kernel_rfl) (by kernel_rfl)

set_option maxRecDepth 100000 in
theorem rr_none : pureCall XRd [told (.exit 0) (fun _ => rK t k)] 200 10 [.string ⟨⟨t⟩⟩] [] = some (.tuple ⟨[.agg ⟨rZ⟩, .int .i64 3]⟩, [LoopTo XRd cRk (startAt XRd 200 10 [.string ⟨⟨t⟩⟩] J0.tabs Tryz.prog.globals.size []) (.exit 0) (rK t k)]) := by kernel_rfl
set_option maxRecDepth 100000 in
theorem rr_found (g : Bool) : pureCall XRd [told .ret (fun _ => rR k n g w)] 200 10 [.string ⟨⟨t⟩⟩] [] = some (.tuple ⟨[fm k n g w, .int .i64 0]⟩, [LoopTo XRd cRk (startAt XRd 200 10 [.string ⟨⟨t⟩⟩] J0.tabs Tryz.prog.globals.size []) .ret (rR k n g w)]) := by kernel_rfl
theorem rk_into {x : AX} {s' : St} (h : LoopTo XRd cRk (rK t 1) x s') : LoopTo XRd cRk (startAt XRd 200 10 [.string ⟨⟨t⟩⟩] J0.tabs Tryz.prog.globals.size []) x s' :=
  loop_into' h [] (by kernel_rfl) (by kernel_rfl) (by kernel_rfl)
theorem rn_into {x : AX} {s' : St} (h : LoopTo XRd cRn (rN t k 0) x s') : LoopTo XRd cRn (rN0 t k) x s' :=
  loop_into' h [] (by kernel_rfl) (by kernel_rfl) (by kernel_rfl)
theorem rw_into {x : AX} {s' : St} (h : LoopTo XRd cRw (rW t k n 0) x s') : LoopTo XRd cRw (rW0 t k n) x s' :=
  loop_into' h [] (by kernel_rfl) (by kernel_rfl) (by kernel_rfl)
end

end Go.Proofs.YtlbmpbkfkmabaaaGreatDoor

/-
  The document's Read of formats answers as show.Read does.
-/
namespace Go.Proofs.YtlbmpbkfkmabaaaGreatDoor
open Go Go.RowKit Ev Sh

theorem hit_read {t : List UInt8} {k n w : Int} {g : Bool} (h : hitB t k n g w = true) : readF t = some ⟨k, n, g, w⟩ := by
  unfold hitB at h
  cases hv : valid k n g w with
  | false =>
    have : codeE k n g w = 1 := by unfold codeE; rw [hv]; rfl
    rw [this] at h
    cases h
  | true =>
    have e1 : codeS k n g w = code k n g w := by unfold codeS; rw [hv]; rfl
    have e2 : codeE k n g w = 0 := by unfold codeE; rw [hv]; rfl
    rw [e1, e2] at h
    have : code k n g w = t := eq_of_beq h
    rw [← this]
    exact read_code hv
theorem no_hit {t : List UInt8} {k n w : Int} {g : Bool} (h : readF t ≠ some ⟨k, n, g, w⟩) : hitB t k n g w = false := by
  cases hb : hitB t k n g w with
  | false => rfl
  | true => exact absurd (hit_read hb) h
theorem hit_self {t : List UInt8} {f : Fm} (h : readF t = some f) : hitB t f.k f.p f.g f.w = true := by
  obtain ⟨hv, hc⟩ := readF_some h
  have e1 : codeS f.k f.p f.g f.w = code f.k f.p f.g f.w := by unfold codeS; rw [hv]; rfl
  have e2 : codeE f.k f.p f.g f.w = 0 := by unfold codeE; rw [hv]; rfl
  unfold hitB
  rw [e1, e2, hc]
  exact beq_self_eq_true t

theorem wrap_cast {i : Nat} (h : i < 1000) : IntKind.i64.wrap ((i : Int) + 1) = ((i + 1 : Nat) : Int) := wrap_next (by omega)

section
variable (t : List UInt8) (k n : Int)
theorem w_none (h : ∀ (w : Int) (g : Bool), hitB t k n g w = false) : LoopTo XRd cRw (rW t k n 0) (.exit 4) (rN t k n) :=
  loop_run (fun i => rW t k n (i : Int)) 65 (by intro e; cases e) (fun i hi => by
    have := rw_go t k n (i : Int) ⟨rfl, h _ _, rfl, h _ _, rfl, decide_eq_true (show (i : Int) ≤ 64 by omega), trivial⟩
    rw [wrap_cast (by omega)] at this
    exact this) (rw_end t k n ((65 : Nat) : Int) ⟨by decide, trivial⟩)
theorem w_hit {w0 : Nat} (hw : w0 ≤ 64) {g0 : Bool} (h : ∀ (w : Int) (g : Bool), hitB t k n g w = true → g = g0 ∧ w = (w0 : Int)) (hit : hitB t k n g0 (w0 : Int) = true) : LoopTo XRd cRw (rW t k n 0) .ret (rR k n g0 (w0 : Int)) :=
  have no : ∀ (w : Int) (g : Bool), ¬(g = g0 ∧ w = (w0 : Int)) → hitB t k n g w = false := fun w g hne => by
    cases hb : hitB t k n g w with
    | false => rfl
    | true => exact absurd (h w g hb) hne
  loop_run (fun i => rW t k n (i : Int)) w0 (by intro e; cases e) (fun i hi => by
    have := rw_go t k n (i : Int) ⟨rfl, no _ _ (fun e => by have := e.2; omega), rfl, no _ _ (fun e => by have := e.2; omega), rfl, decide_eq_true (show (i : Int) ≤ 64 by omega), trivial⟩
    rw [wrap_cast (by omega)] at this
    exact this) (by
    have hle : decide ((w0 : Int) ≤ Int.ofNat 64) = true := decide_eq_true (show (w0 : Int) ≤ 64 by omega)
    cases g0 with
    | false => exact rw_f t k n (w0 : Int) ⟨hit, rfl, hle, trivial⟩
    | true => exact rw_t t k n (w0 : Int) ⟨hit, rfl, no _ _ (fun e => by cases e.1), rfl, hle, trivial⟩)

theorem n_none (h : ∀ (n w : Int) (g : Bool), hitB t k n g w = false) : LoopTo XRd cRn (rN t k 0) (.exit 2) (rK t k) :=
  loop_run (fun i => rN t k (i : Int)) 31 (by intro e; cases e) (fun i hi => by
    have := rn_go t k (i : Int) ⟨rw_into t k _ (w_none t k _ (h _)), decide_eq_true (show (i : Int) ≤ 30 by omega), trivial⟩
    rw [wrap_cast (by omega)] at this
    exact this) (rn_end t k ((31 : Nat) : Int) ⟨by decide, trivial⟩)
theorem n_hit {n0 w0 : Nat} (hn : n0 ≤ 30) (hw : w0 ≤ 64) {g0 : Bool} (h : ∀ (n w : Int) (g : Bool), hitB t k n g w = true → n = (n0 : Int) ∧ g = g0 ∧ w = (w0 : Int)) (hit : hitB t k (n0 : Int) g0 (w0 : Int) = true) : LoopTo XRd cRn (rN t k 0) .ret (rR k (n0 : Int) g0 (w0 : Int)) :=
  loop_run (fun i => rN t k (i : Int)) n0 (by intro e; cases e) (fun i hi => by
    have hno : ∀ (w : Int) (g : Bool), hitB t k (i : Int) g w = false := fun w g => by
      cases hb : hitB t k (i : Int) g w with
      | false => rfl
      | true => have := (h _ _ _ hb).1; omega
    have := rn_go t k (i : Int) ⟨rw_into t k _ (w_none t k _ hno), decide_eq_true (show (i : Int) ≤ 30 by omega), trivial⟩
    rw [wrap_cast (by omega)] at this
    exact this) (rn_hit t k (n0 : Int) (w0 : Int) g0 ⟨rw_into t k _ (w_hit t k _ hw (fun w g hb => (h _ _ _ hb).2) hit), decide_eq_true (show (n0 : Int) ≤ 30 by omega), trivial⟩)
end

theorem idx_ok {i : Nat} (h : i < 5) : Int.ofNat 0 ≤ IntKind.i64.wrap (((i : Int) + 1) - Int.ofNat 1) ∧ (IntKind.i64.wrap (((i : Int) + 1) - Int.ofNat 1)).toNat < 5 := by
  have : i = 0 ∨ i = 1 ∨ i = 2 ∨ i = 3 ∨ i = 4 := by omega
  rcases this with rfl | rfl | rfl | rfl | rfl <;> decide
theorem wrap_two {i : Nat} (h : i < 900) : IntKind.i64.wrap (((i : Int) + 1) + 1) = ((i + 1 : Nat) : Int) + 1 := by
  have := wrap_cast (i := i + 1) (by omega)
  rw [show ((i : Int) + 1) = ((i + 1 : Nat) : Int) by omega, this]
  omega
theorem len_ok {t : List UInt8} (ht : t ≠ []) {i : Nat} (h : i < 5) : lenB t ((i : Int) + 1) = true := by
  have hl : 0 < t.length := List.length_pos_iff.2 ht
  unfold lenB
  rw [decide_eq_true (show ((i : Int) + 1) ≤ 5 by omega)]
  show decide ((t.length : Int) > 0) = true
  exact decide_eq_true (by omega)
theorem k_step {t : List UInt8} (ht : t ≠ []) {i : Nat} (hi : i < 5) (h : ∀ (n w : Int) (g : Bool), hitB t ((i : Int) + 1) n g w = false) : Step XRd cRk (rK t ((i : Int) + 1)) .normal (rK t (((i + 1 : Nat) : Int) + 1)) := by
  have hl : 0 < t.length := List.length_pos_iff.2 ht
  cases hb : letB t ((i : Int) + 1) with
  | true =>
    have := rk_skip t ((i : Int) + 1) ⟨hb, ⟨Int.le_refl _, hl⟩, idx_ok hi, len_ok ht hi, trivial⟩
    rw [wrap_two (by omega)] at this
    exact this
  | false =>
    have := rk_in t ((i : Int) + 1) ⟨rn_into t _ (n_none t _ h), hb, ⟨Int.le_refl _, hl⟩, idx_ok hi, len_ok ht hi, trivial⟩
    rw [wrap_two (by omega)] at this
    exact this

theorem rk_first {t : List UInt8} {x : AX} {s' : St} (h : LoopTo XRd cRk (rK t (((0 : Nat) : Int) + 1)) x s') : LoopTo XRd cRk (startAt XRd 200 10 [.string ⟨⟨t⟩⟩] J0.tabs Tryz.prog.globals.size []) x s' :=
  rk_into t (by rw [show (((0 : Nat) : Int) + 1) = 1 from rfl] at h; exact h)

theorem let_code {k p w : Int} {g : Bool} (h1 : 1 ≤ k) (h2 : k ≤ 5) : letB (code k p g w) k = false := by
  rw [code_eq]
  have : k = 1 ∨ k = 2 ∨ k = 3 ∨ k = 4 ∨ k = 5 := by omega
  rcases this with rfl | rfl | rfl | rfl | rfl <;> rfl

theorem readR_pure (t : List UInt8) : Ev.Pure Tryz.prog J0 10 [.string ⟨⟨t⟩⟩] (.tuple ⟨[.agg ⟨[.int .i64 (rk t), .int .i64 (rp t), .bool (rg t), .int .i64 (rw' t)]⟩, .int .i64 (re t)]⟩) := by
  cases hr : readF t with
  | none =>
    have e1 : rk t = 0 ∧ rp t = 0 ∧ rg t = false ∧ rw' t = 0 ∧ re t = 3 := by unfold rk rp rg rw' re; rw [hr]; exact ⟨rfl, rfl, rfl, rfl, rfl⟩
    obtain ⟨q1, q2, q3, q4, q5⟩ := e1
    rw [q1, q2, q3, q4, q5]
    have no : ∀ (k n w : Int) (g : Bool), hitB t k n g w = false := fun k n w g => no_hit (by rw [hr]; intro e; cases e)
    by_cases ht : t = []
    · exact pure_call bRd_ok (rr_none t (((0 : Nat) : Int) + 1)) ⟨rk_first (loop_run (fun i => rK t ((i : Int) + 1)) 0 (by intro e; cases e) (fun i hi => by omega) (rk_end t _ ⟨by subst ht; rfl, trivial⟩)), trivial⟩
    · exact pure_call bRd_ok (rr_none t (((5 : Nat) : Int) + 1)) ⟨rk_first (loop_run (fun i => rK t ((i : Int) + 1)) 5 (by intro e; cases e) (fun i hi => k_step ht hi (no _)) (rk_end t _ ⟨by unfold lenB; rfl, trivial⟩)), trivial⟩
  | some f =>
    have e1 : rk t = f.k ∧ rp t = f.p ∧ rg t = f.g ∧ rw' t = f.w ∧ re t = 0 := by unfold rk rp rg rw' re; rw [hr]; exact ⟨rfl, rfl, rfl, rfl, rfl⟩
    obtain ⟨q1, q2, q3, q4, q5⟩ := e1
    rw [q1, q2, q3, q4, q5]
    have hit := hit_self hr
    obtain ⟨hv, hc⟩ := readF_some hr
    have only' : ∀ (k n w : Int) (g : Bool), hitB t k n g w = true → k = f.k ∧ n = f.p ∧ g = f.g ∧ w = f.w := fun k n w g hb => by
      have := hit_read hb
      rw [hr] at this
      cases this
      exact ⟨rfl, rfl, rfl, rfl⟩
    obtain ⟨fk, fp, fg, fw⟩ := f
    simp only at *
    have h := hv
    unfold valid at h
    simp only [Bool.and_eq_true, decide_eq_true_eq] at h
    obtain ⟨⟨⟨⟨⟨⟨h1, h2⟩, h3⟩, h4⟩, h5⟩, h6⟩, _⟩ := h
    have hp0 : 0 ≤ fp := by unfold Sh.least at h5; split at h5 <;> omega
    have hp1 : fp ≤ 30 := by unfold most at h6; split at h6 <;> omega
    have hl0 := let_code (k := fk) (p := fp) (w := fw) (g := fg) h1 h2
    rw [hc] at hl0
    have ht : t ≠ [] := by rw [← hc, code_eq]; intro e; cases e
    have hl : 0 < t.length := List.length_pos_iff.2 ht
    obtain ⟨k0, rfl⟩ : ∃ k0 : Nat, fk = (k0 : Int) + 1 := ⟨(fk - 1).toNat, by omega⟩
    obtain ⟨n0, rfl⟩ := Int.eq_ofNat_of_zero_le hp0
    obtain ⟨w0, rfl⟩ := Int.eq_ofNat_of_zero_le h3
    have hk0 : k0 < 5 := by omega
    refine pure_call bRd_ok (rr_found t ((k0 : Int) + 1) (n0 : Int) (w0 : Int) fg) ⟨rk_first (loop_run (fun i => rK t ((i : Int) + 1)) k0 (by intro e; cases e) (fun i hi => k_step ht (by omega) (fun n w g => ?_))
      (rk_hit t _ (n0 : Int) (w0 : Int) fg ⟨rn_into t _ (n_hit t _ (by omega) (by omega) (fun n w g hb => (only' _ _ _ _ hb).2) hit), hl0, ⟨Int.le_refl _, hl⟩, idx_ok hk0, len_ok ht hk0, trivial⟩)), trivial⟩
    cases hb : hitB t ((i : Int) + 1) n g w with
    | false => rfl
    | true => have := (only' _ _ _ _ hb).1; omega

theorem readR : ReadR := by
  intro args v l h _
  unfold specReadF at h
  split at h
  · cases h; exact readR_pure _
  · cases h

end Go.Proofs.YtlbmpbkfkmabaaaGreatDoor

/-
  ShowCodes as a contract: of any formats and any texts it answers true.
-/
namespace Go.Proofs.YtlbmpbkfkmabaaaGreatDoor
open Go Go.RowKit Ev Sh

theorem showCodes_all (F : FmF) (n o1 : Nat) (S : Nat → List UInt8) (m o2 : Nat) (hn : n ≤ 9223372036854775807) (hS : ∀ i, i < m → (S i).length ≤ 281474976710656) :
    Ev.Sem Tryz.prog J0 3 (scA F n o1 S m o2) [.c (.v (.bool true))] :=
  showCodes_sem known06 readR F n o1 S m o2 hn hS

end Go.Proofs.YtlbmpbkfkmabaaaGreatDoor
