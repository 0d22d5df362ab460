/-
  Values that are made of anything, faults' texts: each function of the program and of the document as a contract; the table of them.
-/
import Derived.Test.YtaopinmjgjpiiaaGreatDoorVmD
namespace Go.Proofs.YtaopinmjgjpiiaaGreatDoor
open Go Go.RowKit Ev VaS

abbrev avV (k : Int) (x : Nat) (s : List UInt8) (f : Int) : Value := .agg ⟨[.int .i64 k, .float .f64 x, .string ⟨⟨s⟩⟩, .bool false, .int .i64 f]⟩

/-! Texts. -/
def badT (t : List UInt8) : Bool := match !Lib.validD t with | true => true | false => decide ((t.length : Int) > 1024)
set_option maxRecDepth 100000 in
theorem vt_1 (t : List UInt8) : pureCall XVm1 [] 200 68 [avV 2 0 t 0] [false, false, true, true] = some (.bool false, [badT t = true, t.length ≤ 1048576, true = true, false = false, false = false]) := by kernel_rfl
set_option maxRecDepth 100000 in
theorem vt_2 (t : List UInt8) : pureCall XVm1 [] 200 68 [avV 2 0 t 0] [false, false, true, false] = some (.bool true, [badT t = false, t.length ≤ 1048576, true = true, false = false, false = false]) := by kernel_rfl
def specVd : List Value → Option (Value × List Prop)
  | [.agg ⟨[.int .i64 (.ofNat 2), .float .f64 0, .string ⟨⟨t⟩⟩, .bool false, .int .i64 (.ofNat 0)]⟩] => some (.bool (!badT t), [t.length ≤ 1048576])
  | _ => none
theorem specVd_ok (args : List Value) (v : Value) (l : List Prop) (h : specVd args = some (v, l)) (hl : allP l) : Ev.Pure Tryz.prog J0 68 args v := by
  unfold specVd at h
  split at h
  case h_2 => cases h
  rename_i t
  cases h
  cases hb : badT t with
  | true => exact pureN bVm1_ok (vt_1 t) ⟨hb, hl.1, rfl, rfl, rfl, trivial⟩
  | false => exact pureN bVm1_ok (vt_2 t) ⟨hb, hl.1, rfl, rfl, rfl, trivial⟩
noncomputable def tabVm2 : Tab := tabAdd 68 specVd tabVm1
theorem tabVm2_ok : PcOk Tryz.prog J0 tabVm2 := tabAdd_ok specVd_ok tabVm1_ok
noncomputable def bVm2 : Base := ⟨Tryz.prog, J0, false, tabVm2, mtab0, 2000, xtN0⟩
theorem bVm2_ok : BaseOk bVm2 := ⟨progOk, tabVm2_ok, mtab0_ok _ _, xtN0_ok⟩
noncomputable abbrev XVm2 := bVm2.cx 12

def rbdT (t : List UInt8) : Bool := !match Lib.validD t with | true => decide ((t.length : Int) ≤ 1024) | false => false
theorem rbdT_eq (t : List UInt8) : rbdT t = badT t := by
  unfold rbdT badT
  cases Lib.validD t with
  | false => rfl
  | true =>
    show (!decide ((t.length : Int) ≤ 1024)) = decide ((t.length : Int) > 1024)
    by_cases h : (t.length : Int) ≤ 1024
    · rw [decide_eq_true h, decide_eq_false (by omega)]; rfl
    · rw [decide_eq_false h, decide_eq_true (by omega)]; rfl
set_option maxRecDepth 100000 in
theorem ot_1 (t : List UInt8) : pureCall XVm2 [] 200 25 [.string ⟨⟨t⟩⟩] [true] = some (avV 2 0 t 0, [(!badT t) = true, t.length ≤ 1048576]) := by kernel_rfl
set_option maxRecDepth 100000 in
theorem ot_2 (t : List UInt8) : pureCall XVm2 [] 200 25 [.string ⟨⟨t⟩⟩] [false] = some (avV 4 0 [] 3, [(!badT t) = false, t.length ≤ 1048576]) := by kernel_rfl
set_option maxRecDepth 100000 in
theorem os_1 (t : List UInt8) : pureCall XVm2 [] 200 26 [.string ⟨⟨t⟩⟩] [true] = some (avV 4 0 [] 3, [rbdT t = true, t.length ≤ 1048576]) := by kernel_rfl
set_option maxRecDepth 100000 in
theorem os_2 (t : List UInt8) : pureCall XVm2 [] 200 26 [.string ⟨⟨t⟩⟩] [false] = some (avV 2 0 t 0, [rbdT t = false, t.length ≤ 1048576]) := by kernel_rfl
def otK (t : List UInt8) : Int := if badT t = true then 4 else 2
def otS (t : List UInt8) : List UInt8 := if badT t = true then [] else t
def otF (t : List UInt8) : Int := if badT t = true then 3 else 0
def specOt : List Value → Option (Value × List Prop)
  | [.string ⟨⟨t⟩⟩] => some (avV (otK t) 0 (otS t) (otF t), [t.length ≤ 1048576])
  | _ => none
theorem specOt_ok1 (args : List Value) (v : Value) (l : List Prop) (h : specOt args = some (v, l)) (hl : allP l) : Ev.Pure Tryz.prog J0 25 args v := by
  unfold specOt at h
  split at h
  case h_2 => cases h
  rename_i t
  cases h
  unfold otK otS otF
  cases hb : badT t with
  | true => simp only [if_true]; exact pureN bVm2_ok (ot_2 t) ⟨by rw [hb]; rfl, hl.1, trivial⟩
  | false => simp only [Bool.false_eq_true, if_false]; exact pureN bVm2_ok (ot_1 t) ⟨by rw [hb]; rfl, hl.1, trivial⟩
theorem specOt_ok2 (args : List Value) (v : Value) (l : List Prop) (h : specOt args = some (v, l)) (hl : allP l) : Ev.Pure Tryz.prog J0 26 args v := by
  unfold specOt at h
  split at h
  case h_2 => cases h
  rename_i t
  cases h
  unfold otK otS otF
  cases hb : badT t with
  | true => simp only [if_true]; exact pureN bVm2_ok (os_1 t) ⟨by rw [rbdT_eq, hb], hl.1, trivial⟩
  | false => simp only [Bool.false_eq_true, if_false]; exact pureN bVm2_ok (os_2 t) ⟨by rw [rbdT_eq, hb], hl.1, trivial⟩

/-! Numbers, faults. -/
set_option maxRecDepth 100000 in
theorem nu_1 (x : Nat) : pureCall XVm2 [] 200 23 [.float .f64 x] [] = some (avV 1 (oneX x) [] 0, [x < 18446744073709551616]) := by kernel_rfl
set_option maxRecDepth 100000 in
theorem nu_2 (x : Nat) : pureCall XVm2 [] 200 24 [.float .f64 x] [] = some (avV 1 (oneX x) [] 0, [x < 18446744073709551616]) := by kernel_rfl
def specNu : List Value → Option (Value × List Prop)
  | [.float .f64 x] => some (avV 1 (oneX x) [] 0, [x < 18446744073709551616])
  | _ => none
theorem specNu_ok1 (args : List Value) (v : Value) (l : List Prop) (h : specNu args = some (v, l)) (hl : allP l) : Ev.Pure Tryz.prog J0 23 args v := by
  unfold specNu at h
  split at h
  case h_2 => cases h
  cases h
  exact pureN bVm2_ok (nu_1 _) ⟨hl.1, trivial⟩
theorem specNu_ok2 (args : List Value) (v : Value) (l : List Prop) (h : specNu args = some (v, l)) (hl : allP l) : Ev.Pure Tryz.prog J0 24 args v := by
  unfold specNu at h
  split at h
  case h_2 => cases h
  cases h
  exact pureN bVm2_ok (nu_2 _) ⟨hl.1, trivial⟩
def ofB (f : Int) : Bool := match decide (f < 1) with | true => true | false => decide (f > 5)
section
variable (f : Int)
theorem of_11 : pureCall XVm2 [] 200 29 [.int .i64 f] [true] = some (avV 4 0 [] 3, [ofB f = true]) := by kernel_rfl
theorem of_10 : pureCall XVm2 [] 200 29 [.int .i64 f] [false] = some (avV 4 0 [] f, [ofB f = false]) := by kernel_rfl
theorem of_21 : pureCall XVm2 [] 200 30 [.int .i64 f] [true] = some (avV 4 0 [] 3, [ofB f = true]) := by kernel_rfl
theorem of_20 : pureCall XVm2 [] 200 30 [.int .i64 f] [false] = some (avV 4 0 [] f, [ofB f = false]) := by kernel_rfl
end
def ofF (f : Int) : Int := if ofB f = true then 3 else f
def specOf2 : List Value → Option (Value × List Prop)
  | [.int .i64 f] => some (avV 4 0 [] (ofF f), [])
  | _ => none
theorem specOf_ok1 (args : List Value) (v : Value) (l : List Prop) (h : specOf2 args = some (v, l)) (_ : allP l) : Ev.Pure Tryz.prog J0 29 args v := by
  unfold specOf2 at h
  split at h
  case h_2 => cases h
  rename_i f
  cases h
  unfold ofF
  cases hb : ofB f with
  | true => simp only [if_true]; exact pureN bVm2_ok (of_11 f) ⟨hb, trivial⟩
  | false => simp only [Bool.false_eq_true, if_false]; exact pureN bVm2_ok (of_10 f) ⟨hb, trivial⟩
theorem specOf_ok2 (args : List Value) (v : Value) (l : List Prop) (h : specOf2 args = some (v, l)) (_ : allP l) : Ev.Pure Tryz.prog J0 30 args v := by
  unfold specOf2 at h
  split at h
  case h_2 => cases h
  rename_i f
  cases h
  unfold ofF
  cases hb : ofB f with
  | true => simp only [if_true]; exact pureN bVm2_ok (of_21 f) ⟨hb, trivial⟩
  | false => simp only [Bool.false_eq_true, if_false]; exact pureN bVm2_ok (of_20 f) ⟨hb, trivial⟩

/-! The value of an error. -/
section
variable (x : Nat) (e : Int)
def beQ (e : Int) : List Prop := [(e == 10) = false, (e == 4) = false, (e == 13) = false, (e == 0) = false]
theorem be_00 (F : Nat) (hF : F = 31 ∨ F = 32) : pureCall XVm2 [] 200 F [.float .f64 x, .int .i64 e] [true] = some (avV 1 (oneX x) [] 0, [x < 18446744073709551616, (e == 0) = true]) := by
  rcases hF with rfl | rfl <;> kernel_rfl
theorem be_13 (F : Nat) (hF : F = 31 ∨ F = 32) : pureCall XVm2 [] 200 F [.float .f64 x, .int .i64 e] [false, true] = some (avV 4 0 [] (ofF 1), [(e == 13) = true, (e == 0) = false]) := by
  rcases hF with rfl | rfl <;> kernel_rfl
theorem be_04 (F : Nat) (hF : F = 31 ∨ F = 32) : pureCall XVm2 [] 200 F [.float .f64 x, .int .i64 e] [false, false, true] = some (avV 4 0 [] (ofF 5), [(e == 4) = true, (e == 13) = false, (e == 0) = false]) := by
  rcases hF with rfl | rfl <;> kernel_rfl
end
end Go.Proofs.YtaopinmjgjpiiaaGreatDoor
