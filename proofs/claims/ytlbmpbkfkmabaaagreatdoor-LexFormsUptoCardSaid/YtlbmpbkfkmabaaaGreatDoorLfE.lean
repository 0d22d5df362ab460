/-
  The document's Quote of a text of ordinary length, as a contract; both Quotes answer the same.
-/
import Derived.Test.YtlbmpbkfkmabaaaGreatDoorLfD
namespace Go.Proofs.YtlbmpbkfkmabaaaGreatDoor
open Go Go.RowKit Ev

noncomputable def cQu : Code := loopAt Tryz.prog 15 0
noncomputable def tQ (t : List UInt8) (ns : List Int) (m : Nat) (i : Int) : St := ⟨only 29 [(0, .string ⟨⟨t⟩⟩), (3, .slice (some ⟨12, 0, some 13⟩) m 0), (4, .int .i64 i)], [(12, .row 5 1 (.ints .u8 ns) 13)] ++ J0.tabs, 14, [], [], 0, none, [], 11⟩
noncomputable def tQ0 (t : List UInt8) (i : Int) : St := ⟨only 29 [(0, .string ⟨⟨t⟩⟩), (3, .slice (some ⟨11, 0, none⟩) 1 1), (4, .int .i64 i)], [(11, .cells [.int .u8 34] 5)] ++ J0.tabs, 12, [], [], 0, none, [], 11⟩
abbrev qb (t : List UInt8) (i : Nat) : Int := Int.ofNat (t.getD i 0).toNat
def apP (m k : Nat) : Prop := m * 1 = k ∧ (m + 1) * 1 ≤ 140737488355328 ∧ m + 1 ≤ 9223372036854775807
def atP (t : List UInt8) (i : Nat) : Prop := Int.ofNat 0 ≤ Int.ofNat i ∧ i < t.length

section
variable (t : List UInt8) (ns : List Int) (m i : Nat)
set_option maxRecDepth 100000 in
theorem qu_two (hl : allP [apP (m + 1) (ns ++ [34]).length, atP t i, apP m ns.length, (qb t i == 34) = true, atP t i, decide (Int.ofNat i < Int.ofNat t.length) = true]) : Step XLf1 cQu (tQ t ns m (i : Int)) .normal (tQ t (ns ++ [34] ++ [qb t i]) (m + 2) (IntKind.i64.wrap ((i : Int) + 1))) :=
  step_of (Base.cx_ok bLf1_ok 12).1 progOk.mixed [] 200 [true, true] [(12, 18), (13, 19)] (by kernel_rfl) hl (by kernel_rfl) (by kernel_rfl)
set_option maxRecDepth 100000 in
theorem qu_one (hl : allP [apP m ns.length, atP t i, (qb t i == 34) = false, atP t i, decide (Int.ofNat i < Int.ofNat t.length) = true]) : Step XLf1 cQu (tQ t ns m (i : Int)) .normal (tQ t (ns ++ [qb t i]) (m + 1) (IntKind.i64.wrap ((i : Int) + 1))) :=
  step_of (Base.cx_ok bLf1_ok 12).1 progOk.mixed [] 200 [true, false] [(12, 15), (13, 16)] (by kernel_rfl) hl (by kernel_rfl) (by kernel_rfl)
set_option maxRecDepth 100000 in
theorem qu_end (hl : allP [decide (Int.ofNat i < Int.ofNat t.length) = false]) : Step XLf1 cQu (tQ t ns m (i : Int)) (.exit 0) (tQ t ns m (i : Int)) :=
  step_of (Base.cx_ok bLf1_ok 12).1 progOk.mixed [] 200 [false] [] (by kernel_rfl) hl (by kernel_rfl) (by kernel_rfl)
set_option maxRecDepth 100000 in
theorem qz_two (hl : allP [2 = 2 ∧ 3 ≤ 140737488355328 ∧ 3 ≤ 9223372036854775807, atP t 0, 2 ≤ 140737488355328 ∧ 2 ≤ 9223372036854775807 ∧ 1 ≤ 2, (qb t 0 == 34) = true, atP t 0, decide (Int.ofNat 0 < Int.ofNat t.length) = true]) : Step XLf1 cQu (tQ0 t 0) .normal (tQ t [34, 34, qb t 0] 3 1) :=
  step_of (Base.cx_ok bLf1_ok 12).1 progOk.mixed [] 200 [true, true] [(12, 16), (13, 17)] (by kernel_rfl) hl (by kernel_rfl) (by kernel_rfl)
set_option maxRecDepth 100000 in
theorem qz_one (hl : allP [2 ≤ 140737488355328 ∧ 2 ≤ 9223372036854775807 ∧ 1 ≤ 2, atP t 0, (qb t 0 == 34) = false, atP t 0, decide (Int.ofNat 0 < Int.ofNat t.length) = true]) : Step XLf1 cQu (tQ0 t 0) .normal (tQ t [34, qb t 0] 2 1) :=
  step_of (Base.cx_ok bLf1_ok 12).1 progOk.mixed [] 200 [true, false] [(12, 13), (13, 14)] (by kernel_rfl) hl (by kernel_rfl) (by kernel_rfl)
set_option maxRecDepth 100000 in
theorem qz_end (hl : allP [decide (Int.ofNat 0 < Int.ofNat t.length) = false]) : Step XLf1 cQu (tQ0 t 0) (.exit 0) (tQ0 t 0) :=
  step_of (Base.cx_ok bLf1_ok 12).1 progOk.mixed [] 200 [false] [] (by kernel_rfl) hl (by kernel_rfl) (by kernel_rfl)
set_option maxRecDepth 100000 in
theorem qr_all : pureCall XLf1 [told (.exit 0) (fun _ => tQ t ns m (i : Int))] 200 15 [.string ⟨⟨t⟩⟩] [] = some (.string ⟨⟨(ns ++ [34]).map (fun (n : Int) => UInt8.ofNat n.toNat)⟩⟩, [m + 1 = (ns ++ [34]).length, apP m ns.length, LoopTo XLf1 cQu (startAt XLf1 200 15 [.string ⟨⟨t⟩⟩] J0.tabs Tryz.prog.globals.size []) (.exit 0) (tQ t ns m (i : Int))]) := by kernel_rfl
set_option maxRecDepth 100000 in
theorem qr_none : pureCall XLf1 [told (.exit 0) (fun _ => tQ0 t 0)] 200 15 [.string ⟨⟨t⟩⟩] [] = some (.string ⟨⟨[34, 34]⟩⟩, [2 = 2, 2 ≤ 140737488355328 ∧ 2 ≤ 9223372036854775807 ∧ 1 ≤ 2, LoopTo XLf1 cQu (startAt XLf1 200 15 [.string ⟨⟨t⟩⟩] J0.tabs Tryz.prog.globals.size []) (.exit 0) (tQ0 t 0)]) := by kernel_rfl
theorem qu_into {x : AX} {s' : St} (h : LoopTo XLf1 cQu (tQ0 t 0) x s') : LoopTo XLf1 cQu (startAt XLf1 200 15 [.string ⟨⟨t⟩⟩] J0.tabs Tryz.prog.globals.size []) x s' :=
  loop_into' h [] (by kernel_rfl) (by kernel_rfl) (by kernel_rfl)
end

def qI (b : UInt8) : Int := Int.ofNat b.toNat
/-- What lies in the row. -/
def qN (l : List UInt8) : List Int := (34 :: dq l).map qI
theorem qN_len (l : List UInt8) : (qN l).length = (dq l).length + 1 := by unfold qN; simp
theorem qb_34 {t : List UInt8} {k : Nat} (h : t.getD k 0 = 34) : qb t k = 34 := by unfold qb; rw [h]; rfl
theorem qb_eq {t : List UInt8} {k : Nat} : (qb t k == 34) = decide (t.getD k 0 = 34) := by
  by_cases h : t.getD k 0 = 34
  · rw [qb_34 h, decide_eq_true h]; rfl
  · rw [decide_eq_false h]
    refine beq_false_of_ne fun e => h ?_
    have e : ((t.getD k 0).toNat : Int) = 34 := e
    exact UInt8.toNat_inj.1 (show (t.getD k 0).toNat = 34 by omega)
theorem take_next {t : List UInt8} {k : Nat} (h : k < t.length) : t.take (k + 1) = t.take k ++ [t.getD k 0] := by
  rw [List.take_add_one, List.getD, List.getElem?_eq_getElem h]
  rfl
theorem qN_two {t : List UInt8} {k : Nat} (h : k < t.length) (hc : t.getD k 0 = 34) : qN (t.take (k + 1)) = qN (t.take k) ++ [34] ++ [qb t k] := by
  rw [take_next h]
  unfold qN
  rw [dq_app, hc, qb_34 hc]
  simp [dq, qI]
theorem qN_one {t : List UInt8} {k : Nat} (h : k < t.length) (hc : ¬t.getD k 0 = 34) : qN (t.take (k + 1)) = qN (t.take k) ++ [qb t k] := by
  rw [take_next h]
  unfold qN
  rw [dq_app, show dq [t.getD k 0] = [t.getD k 0] by rw [dq, if_neg hc]; rfl]
  simp [qI, qb]
theorem qN_le {t : List UInt8} (ht : t.length ≤ 1048576) (k : Nat) : (qN (t.take k)).length ≤ 2097153 := by
  rw [qN_len]
  have h1 := dq_len (t.take k)
  have h2 : (t.take k).length ≤ t.length := by rw [List.length_take]; exact Nat.min_le_right _ _
  omega

noncomputable def quS (t : List UInt8) : Nat → St
  | 0 => tQ0 t 0
  | k + 1 => tQ t (qN (t.take (k + 1))) (qN (t.take (k + 1))).length ((k + 1 : Nat) : Int)
theorem ap_ok {m : Nat} (h : m ≤ 2097154) : apP m m := ⟨Nat.mul_one _, by omega, by omega⟩

theorem qu_step {t : List UInt8} (ht : t.length ≤ 1048576) : ∀ k, k < t.length → Step XLf1 cQu (quS t k) .normal (quS t (k + 1))
  | 0, h => by
    have hd : decide (Int.ofNat 0 < Int.ofNat t.length) = true := decide_eq_true (Int.ofNat_lt.2 h)
    have ha : atP t 0 := ⟨Int.le_refl _, h⟩
    by_cases hc : t.getD 0 0 = 34
    · have e := qN_two h hc
      have := qz_two t ⟨⟨rfl, by decide, by decide⟩, ha, ⟨by decide, by decide, by decide⟩, by rw [qb_eq, decide_eq_true hc], ha, hd, trivial⟩
      have e' : qN (t.take 1) = [34, 34, qb t 0] := by rw [e]; rfl
      show Step XLf1 cQu (tQ0 t 0) .normal (tQ t (qN (t.take 1)) (qN (t.take 1)).length ((1 : Nat) : Int))
      rw [e']
      exact this
    · have e := qN_one h hc
      have := qz_one t ⟨⟨by decide, by decide, by decide⟩, ha, by rw [qb_eq, decide_eq_false hc], ha, hd, trivial⟩
      have e' : qN (t.take 1) = [34, qb t 0] := by rw [e]; rfl
      show Step XLf1 cQu (tQ0 t 0) .normal (tQ t (qN (t.take 1)) (qN (t.take 1)).length ((1 : Nat) : Int))
      rw [e']
      exact this
  | k + 1, h => by
    have hd : decide (Int.ofNat (k + 1) < Int.ofNat t.length) = true := decide_eq_true (Int.ofNat_lt.2 h)
    have ha : atP t (k + 1) := ⟨Int.natCast_nonneg _, h⟩
    have hl := qN_le ht (k + 1)
    show Step XLf1 cQu (tQ t (qN (t.take (k + 1))) (qN (t.take (k + 1))).length ((k + 1 : Nat) : Int)) .normal (tQ t (qN (t.take (k + 1 + 1))) (qN (t.take (k + 1 + 1))).length ((k + 1 + 1 : Nat) : Int))
    by_cases hc : t.getD (k + 1) 0 = 34
    · have := qu_two t (qN (t.take (k + 1))) (qN (t.take (k + 1))).length (k + 1) ⟨by rw [List.length_append]; exact ap_ok (by omega), ha, ap_ok (by omega), by rw [qb_eq, decide_eq_true hc], ha, hd, trivial⟩
      rw [wrap_inc (by omega)] at this
      rw [qN_two h hc]
      simp only [List.length_append, List.length_singleton] at this ⊢
      exact this
    · have := qu_one t (qN (t.take (k + 1))) (qN (t.take (k + 1))).length (k + 1) ⟨ap_ok (by omega), ha, by rw [qb_eq, decide_eq_false hc], ha, hd, trivial⟩
      rw [wrap_inc (by omega)] at this
      rw [qN_one h hc]
      simp only [List.length_append, List.length_singleton] at this ⊢
      exact this

/-- A text in quotes. -/
def quoT (t : List UInt8) : List UInt8 := 34 :: (dq t ++ [34])
theorem back_q (t : List UInt8) : (qN t ++ [34]).map (fun (n : Int) => UInt8.ofNat n.toNat) = quoT t := by
  have hq : ∀ l : List UInt8, (l.map qI).map (fun (n : Int) => UInt8.ofNat n.toNat) = l := fun l => by
    rw [List.map_map]
    refine (List.map_congr_left (g := id) fun b _ => ?_).trans (List.map_id _)
    show UInt8.ofNat (Int.ofNat b.toNat).toNat = b
    simp
  rw [List.map_append]
  unfold qN quoT
  rw [hq]
  rfl
theorem quote2_pure {t : List UInt8} (ht : t.length ≤ 1048576) : Ev.Pure Tryz.prog J0 15 [.string ⟨⟨t⟩⟩] (.string ⟨⟨quoT t⟩⟩) := by
  cases hl : t.length with
  | zero =>
    obtain rfl := List.length_eq_zero_iff.1 hl
    exact pureC bLf1_ok (qr_none []) ⟨rfl, ⟨by decide, by decide, by decide⟩, qu_into [] (loop_run (quS []) 0 (by intro e; cases e) (fun i hi => by omega) (qz_end [] ⟨rfl, trivial⟩)), trivial⟩
  | succ n =>
    have hloop : LoopTo XLf1 cQu (quS t 0) (.exit 0) (tQ t (qN t) (qN t).length (t.length : Int)) := by
      refine loop_run (quS t) (n + 1) (by intro e; cases e) (fun i hi => qu_step ht i (by omega)) ?_
      have e : t.take (n + 1) = t := by rw [← hl]; exact List.take_length
      show Step XLf1 cQu (tQ t (qN (t.take (n + 1))) (qN (t.take (n + 1))).length ((n + 1 : Nat) : Int)) (.exit 0) _
      rw [e, ← hl]
      exact qu_end t _ _ _ ⟨decide_eq_false (Int.lt_irrefl _), trivial⟩
    have hle := qN_le ht t.length
    rw [List.take_length] at hle
    have := pureC bLf1_ok (qr_all t (qN t) (qN t).length t.length) ⟨by rw [List.length_append]; rfl, ap_ok (by omega), qu_into t hloop, trivial⟩
    rw [back_q] at this
    exact this

set_option maxRecDepth 100000 in
theorem ql_all (t : List UInt8) : pureCall XLf2 [] 200 14 [.string ⟨⟨t⟩⟩] [] = some (.string ⟨⟨([34] ++ dq t) ++ [34]⟩⟩, [(34 :: dq t).length + 1 ≤ 9223372036854775807, 1 + (dq t).length ≤ 9223372036854775807, t.length ≤ 1048576 ∧ (-1 : Int) = -1]) := by kernel_rfl
theorem quote1_pure {t : List UInt8} (ht : t.length ≤ 1048576) : Ev.Pure Tryz.prog J0 14 [.string ⟨⟨t⟩⟩] (.string ⟨⟨quoT t⟩⟩) := by
  have hl := dq_len t
  exact pureC bLf2_ok (ql_all t) ⟨by simp only [List.length_cons]; omega, by omega, ⟨ht, rfl⟩, trivial⟩

def specName : List Value → Option (Value × List Prop)
  | [.string ⟨⟨t⟩⟩] => some (.bool (nameB t), [t.length ≤ 1048576])
  | _ => none
def specQuo : List Value → Option (Value × List Prop)
  | [.string ⟨⟨t⟩⟩] => some (.string ⟨⟨quoT t⟩⟩, [t.length ≤ 1048576])
  | _ => none
theorem specName_ok1 (args : List Value) (v : Value) (l : List Prop) (h : specName args = some (v, l)) (hl : allP l) : Ev.Pure Tryz.prog J0 12 args v := by
  unfold specName at h
  split at h
  · cases h; exact isName1_pure (Nat.le_trans hl.1 (by decide))
  · cases h
theorem specName_ok2 (args : List Value) (v : Value) (l : List Prop) (h : specName args = some (v, l)) (hl : allP l) : Ev.Pure Tryz.prog J0 13 args v := by
  unfold specName at h
  split at h
  · cases h; exact isName2_pure (Nat.le_trans hl.1 (by decide))
  · cases h
theorem specQuo_ok1 (args : List Value) (v : Value) (l : List Prop) (h : specQuo args = some (v, l)) (hl : allP l) : Ev.Pure Tryz.prog J0 14 args v := by
  unfold specQuo at h
  split at h
  · cases h; exact quote1_pure hl.1
  · cases h
theorem specQuo_ok2 (args : List Value) (v : Value) (l : List Prop) (h : specQuo args = some (v, l)) (hl : allP l) : Ev.Pure Tryz.prog J0 15 args v := by
  unfold specQuo at h
  split at h
  · cases h; exact quote2_pure hl.1
  · cases h
noncomputable def tabLf3 : Tab := tabAdd 12 specName (tabAdd 13 specName (tabAdd 14 specQuo (tabAdd 15 specQuo (tabAdd 16 (atS [([], .bool true)]) tabN0))))
theorem tabLf3_ok (hk : Ev.Pure Tryz.prog J0 16 [] (.bool true)) : PcOk Tryz.prog J0 tabLf3 :=
  tabAdd_ok specName_ok1 (tabAdd_ok specName_ok2 (tabAdd_ok specQuo_ok1 (tabAdd_ok specQuo_ok2 (tabAdd_ok (atS_ok (fun p hp => by simp only [List.mem_cons, List.not_mem_nil, or_false] at hp; subst hp; exact hk)) tabN0_ok))))
noncomputable def bLf3 : Base := ⟨Tryz.prog, J0, false, tabLf3, mtab0, 2000, xtN0⟩
theorem bLf3_ok (hk : Ev.Pure Tryz.prog J0 16 [] (.bool true)) : BaseOk bLf3 := ⟨progOk, tabLf3_ok hk, mtab0_ok _ _, xtN0_ok⟩
noncomputable abbrev XLf3 := bLf3.cx 12

end Go.Proofs.YtlbmpbkfkmabaaaGreatDoor
