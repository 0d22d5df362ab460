/-
  ByError, FaultText, ParseFault as contracts; the table of all (printed by mkmakes.py).
-/
import Derived.Test.YtaopinmjgjpiiaaGreatDoorVmE
namespace Go.Proofs.YtaopinmjgjpiiaaGreatDoor
open Go Go.RowKit Ev VaS

abbrev fT1 : List UInt8 := [35, 68, 73, 86, 33]
abbrev fT2 : List UInt8 := [35, 78, 85, 77, 33]
abbrev fT3 : List UInt8 := [35, 86, 65, 76, 85, 69, 33]
abbrev fT4 : List UInt8 := [35, 82, 69, 70, 33]
abbrev fT5 : List UInt8 := [35, 78, 79, 78, 69, 33]
/-! The value of an error. -/
def beK (e : Int) : Int := if e = 0 then 1 else 4
def beX (e : Int) (x : Nat) : Nat := if e = 0 then oneX x else 0
def beF (e : Int) : Int := if e = 0 then 0 else if e = 13 then 1 else if e = 4 then 5 else if e = 10 then 2 else if e = 11 then 2 else if e = 12 then 2 else if e = 14 then 2 else if e = 15 then 2 else 3
set_option maxRecDepth 100000 in
theorem be1_0 (x : Nat) (e : Int) : pureCall XVm2 [] 200 31 [.float .f64 x, .int .i64 e] [true] = some (avV 1 (oneX x) [] 0, [x < 18446744073709551616, (e == 0) = true]) := by kernel_rfl
set_option maxRecDepth 100000 in
theorem be1_1 (x : Nat) (e : Int) : pureCall XVm2 [] 200 31 [.float .f64 x, .int .i64 e] [false, true] = some (avV 4 0 [] 1, [(e == 13) = true, (e == 0) = false]) := by kernel_rfl
set_option maxRecDepth 100000 in
theorem be1_2 (x : Nat) (e : Int) : pureCall XVm2 [] 200 31 [.float .f64 x, .int .i64 e] [false, false, true] = some (avV 4 0 [] 5, [(e == 4) = true, (e == 13) = false, (e == 0) = false]) := by kernel_rfl
set_option maxRecDepth 100000 in
theorem be1_3 (x : Nat) (e : Int) : pureCall XVm2 [] 200 31 [.float .f64 x, .int .i64 e] [false, false, false, true, true] = some (avV 4 0 [] 2, [(e == 10) = true, (e == 10) = true, (e == 4) = false, (e == 13) = false, (e == 0) = false]) := by kernel_rfl
set_option maxRecDepth 100000 in
theorem be1_4 (x : Nat) (e : Int) : pureCall XVm2 [] 200 31 [.float .f64 x, .int .i64 e] [false, false, false, false, true, true] = some (avV 4 0 [] 2, [(e == 11) = true, (e == 11) = true, (e == 10) = false, (e == 4) = false, (e == 13) = false, (e == 0) = false]) := by kernel_rfl
set_option maxRecDepth 100000 in
theorem be1_5 (x : Nat) (e : Int) : pureCall XVm2 [] 200 31 [.float .f64 x, .int .i64 e] [false, false, false, false, false, true, true] = some (avV 4 0 [] 2, [(e == 12) = true, (e == 12) = true, (e == 11) = false, (e == 10) = false, (e == 4) = false, (e == 13) = false, (e == 0) = false]) := by kernel_rfl
set_option maxRecDepth 100000 in
theorem be1_6 (x : Nat) (e : Int) : pureCall XVm2 [] 200 31 [.float .f64 x, .int .i64 e] [false, false, false, false, false, false, true, true] = some (avV 4 0 [] 2, [(e == 14) = true, (e == 14) = true, (e == 12) = false, (e == 11) = false, (e == 10) = false, (e == 4) = false, (e == 13) = false, (e == 0) = false]) := by kernel_rfl
set_option maxRecDepth 100000 in
theorem be1_7 (x : Nat) (e : Int) : pureCall XVm2 [] 200 31 [.float .f64 x, .int .i64 e] [false, false, false, false, false, false, false, true] = some (avV 4 0 [] 2, [(e == 15) = true, (e == 14) = false, (e == 12) = false, (e == 11) = false, (e == 10) = false, (e == 4) = false, (e == 13) = false, (e == 0) = false]) := by kernel_rfl
set_option maxRecDepth 100000 in
theorem be1_8 (x : Nat) (e : Int) : pureCall XVm2 [] 200 31 [.float .f64 x, .int .i64 e] [false, false, false, false, false, false, false, false] = some (avV 4 0 [] 3, [(e == 15) = false, (e == 14) = false, (e == 12) = false, (e == 11) = false, (e == 10) = false, (e == 4) = false, (e == 13) = false, (e == 0) = false]) := by kernel_rfl
set_option maxRecDepth 100000 in
theorem be2_0 (x : Nat) (e : Int) : pureCall XVm2 [] 200 32 [.float .f64 x, .int .i64 e] [true] = some (avV 1 (oneX x) [] 0, [x < 18446744073709551616, (e == 0) = true]) := by kernel_rfl
set_option maxRecDepth 100000 in
theorem be2_1 (x : Nat) (e : Int) : pureCall XVm2 [] 200 32 [.float .f64 x, .int .i64 e] [false, true] = some (avV 4 0 [] 1, [(e == 13) = true, (e == 0) = false]) := by kernel_rfl
set_option maxRecDepth 100000 in
theorem be2_2 (x : Nat) (e : Int) : pureCall XVm2 [] 200 32 [.float .f64 x, .int .i64 e] [false, false, true] = some (avV 4 0 [] 5, [(e == 4) = true, (e == 13) = false, (e == 0) = false]) := by kernel_rfl
set_option maxRecDepth 100000 in
theorem be2_3 (x : Nat) (e : Int) : pureCall XVm2 [] 200 32 [.float .f64 x, .int .i64 e] [false, false, false, true, true] = some (avV 4 0 [] 2, [(e == 10) = true, (e == 10) = true, (e == 4) = false, (e == 13) = false, (e == 0) = false]) := by kernel_rfl
set_option maxRecDepth 100000 in
theorem be2_4 (x : Nat) (e : Int) : pureCall XVm2 [] 200 32 [.float .f64 x, .int .i64 e] [false, false, false, false, true, true] = some (avV 4 0 [] 2, [(e == 11) = true, (e == 11) = true, (e == 10) = false, (e == 4) = false, (e == 13) = false, (e == 0) = false]) := by kernel_rfl
set_option maxRecDepth 100000 in
theorem be2_5 (x : Nat) (e : Int) : pureCall XVm2 [] 200 32 [.float .f64 x, .int .i64 e] [false, false, false, false, false, true, true] = some (avV 4 0 [] 2, [(e == 12) = true, (e == 12) = true, (e == 11) = false, (e == 10) = false, (e == 4) = false, (e == 13) = false, (e == 0) = false]) := by kernel_rfl
set_option maxRecDepth 100000 in
theorem be2_6 (x : Nat) (e : Int) : pureCall XVm2 [] 200 32 [.float .f64 x, .int .i64 e] [false, false, false, false, false, false, true, true] = some (avV 4 0 [] 2, [(e == 14) = true, (e == 14) = true, (e == 12) = false, (e == 11) = false, (e == 10) = false, (e == 4) = false, (e == 13) = false, (e == 0) = false]) := by kernel_rfl
set_option maxRecDepth 100000 in
theorem be2_7 (x : Nat) (e : Int) : pureCall XVm2 [] 200 32 [.float .f64 x, .int .i64 e] [false, false, false, false, false, false, false, true] = some (avV 4 0 [] 2, [(e == 15) = true, (e == 14) = false, (e == 12) = false, (e == 11) = false, (e == 10) = false, (e == 4) = false, (e == 13) = false, (e == 0) = false]) := by kernel_rfl
set_option maxRecDepth 100000 in
theorem be2_8 (x : Nat) (e : Int) : pureCall XVm2 [] 200 32 [.float .f64 x, .int .i64 e] [false, false, false, false, false, false, false, false] = some (avV 4 0 [] 3, [(e == 15) = false, (e == 14) = false, (e == 12) = false, (e == 11) = false, (e == 10) = false, (e == 4) = false, (e == 13) = false, (e == 0) = false]) := by kernel_rfl
def specBe : List Value → Option (Value × List Prop)
  | [.float .f64 x, .int .i64 e] => some (avV (beK e) (beX e x) [] (beF e), [x < 18446744073709551616])
  | _ => none
theorem neI {e c : Int} (h : ¬e = c) : (e == c) = false := beq_false_of_ne h
theorem eqI {e c : Int} (h : e = c) : (e == c) = true := by rw [h]; exact beq_self_eq_true c
theorem specBe_ok1 (args : List Value) (v : Value) (l : List Prop) (h : specBe args = some (v, l)) (hl : allP l) : Ev.Pure Tryz.prog J0 31 args v := by
  unfold specBe at h
  split at h
  case h_2 => cases h
  rename_i x e
  cases h
  unfold beK beX beF
  by_cases h0 : e = 0
  · rw [if_pos h0, if_pos h0, if_pos h0]
    exact pureN bVm2_ok (be1_0 x e) ⟨hl.1, eqI h0, trivial⟩
  rw [if_neg h0, if_neg h0, if_neg h0]
  by_cases h13 : e = 13
  · rw [if_pos h13]
    exact pureN bVm2_ok (be1_1 x e) ⟨eqI h13, neI h0, trivial⟩
  rw [if_neg h13]
  by_cases h4 : e = 4
  · rw [if_pos h4]
    exact pureN bVm2_ok (be1_2 x e) ⟨eqI h4, neI h13, neI h0, trivial⟩
  rw [if_neg h4]
  by_cases h10 : e = 10
  · rw [if_pos h10]
    exact pureN bVm2_ok (be1_3 x e) ⟨eqI h10, eqI h10, neI h4, neI h13, neI h0, trivial⟩
  rw [if_neg h10]
  by_cases h11 : e = 11
  · rw [if_pos h11]
    exact pureN bVm2_ok (be1_4 x e) ⟨eqI h11, eqI h11, neI h10, neI h4, neI h13, neI h0, trivial⟩
  rw [if_neg h11]
  by_cases h12 : e = 12
  · rw [if_pos h12]
    exact pureN bVm2_ok (be1_5 x e) ⟨eqI h12, eqI h12, neI h11, neI h10, neI h4, neI h13, neI h0, trivial⟩
  rw [if_neg h12]
  by_cases h14 : e = 14
  · rw [if_pos h14]
    exact pureN bVm2_ok (be1_6 x e) ⟨eqI h14, eqI h14, neI h12, neI h11, neI h10, neI h4, neI h13, neI h0, trivial⟩
  rw [if_neg h14]
  by_cases h15 : e = 15
  · rw [if_pos h15]
    exact pureN bVm2_ok (be1_7 x e) ⟨eqI h15, neI h14, neI h12, neI h11, neI h10, neI h4, neI h13, neI h0, trivial⟩
  rw [if_neg h15]
  exact pureN bVm2_ok (be1_8 x e) ⟨neI h15, neI h14, neI h12, neI h11, neI h10, neI h4, neI h13, neI h0, trivial⟩
theorem specBe_ok2 (args : List Value) (v : Value) (l : List Prop) (h : specBe args = some (v, l)) (hl : allP l) : Ev.Pure Tryz.prog J0 32 args v := by
  unfold specBe at h
  split at h
  case h_2 => cases h
  rename_i x e
  cases h
  unfold beK beX beF
  by_cases h0 : e = 0
  · rw [if_pos h0, if_pos h0, if_pos h0]
    exact pureN bVm2_ok (be2_0 x e) ⟨hl.1, eqI h0, trivial⟩
  rw [if_neg h0, if_neg h0, if_neg h0]
  by_cases h13 : e = 13
  · rw [if_pos h13]
    exact pureN bVm2_ok (be2_1 x e) ⟨eqI h13, neI h0, trivial⟩
  rw [if_neg h13]
  by_cases h4 : e = 4
  · rw [if_pos h4]
    exact pureN bVm2_ok (be2_2 x e) ⟨eqI h4, neI h13, neI h0, trivial⟩
  rw [if_neg h4]
  by_cases h10 : e = 10
  · rw [if_pos h10]
    exact pureN bVm2_ok (be2_3 x e) ⟨eqI h10, eqI h10, neI h4, neI h13, neI h0, trivial⟩
  rw [if_neg h10]
  by_cases h11 : e = 11
  · rw [if_pos h11]
    exact pureN bVm2_ok (be2_4 x e) ⟨eqI h11, eqI h11, neI h10, neI h4, neI h13, neI h0, trivial⟩
  rw [if_neg h11]
  by_cases h12 : e = 12
  · rw [if_pos h12]
    exact pureN bVm2_ok (be2_5 x e) ⟨eqI h12, eqI h12, neI h11, neI h10, neI h4, neI h13, neI h0, trivial⟩
  rw [if_neg h12]
  by_cases h14 : e = 14
  · rw [if_pos h14]
    exact pureN bVm2_ok (be2_6 x e) ⟨eqI h14, eqI h14, neI h12, neI h11, neI h10, neI h4, neI h13, neI h0, trivial⟩
  rw [if_neg h14]
  by_cases h15 : e = 15
  · rw [if_pos h15]
    exact pureN bVm2_ok (be2_7 x e) ⟨eqI h15, neI h14, neI h12, neI h11, neI h10, neI h4, neI h13, neI h0, trivial⟩
  rw [if_neg h15]
  exact pureN bVm2_ok (be2_8 x e) ⟨neI h15, neI h14, neI h12, neI h11, neI h10, neI h4, neI h13, neI h0, trivial⟩

/-! Faults' texts. -/
def ftS (f : Int) : List UInt8 := if f = 1 then fT1 else if f = 2 then fT2 else if f = 3 then fT3 else if f = 4 then fT4 else if f = 5 then fT5 else []
def ftE (f : Int) : Int := if ofB f = true then 1 else 0
theorem ft1_1 : pureCall XVm2 [] 200 33 [.int .i64 1] [false] = some (.tuple ⟨[.string ⟨⟨fT1⟩⟩, .int .i64 0]⟩, [Int.ofNat 0 ≤ Int.ofNat 0 ∧ Int.ofNat 0 < Int.ofNat 5, false = false]) := by kernel_rfl
theorem ft2_1 : pureCall XVm2 [] 200 34 [.int .i64 1] [true] = some (.tuple ⟨[.string ⟨⟨fT1⟩⟩, .int .i64 0]⟩, [true = true]) := by kernel_rfl
theorem ft1_2 : pureCall XVm2 [] 200 33 [.int .i64 2] [false] = some (.tuple ⟨[.string ⟨⟨fT2⟩⟩, .int .i64 0]⟩, [Int.ofNat 0 ≤ Int.ofNat 1 ∧ Int.ofNat 1 < Int.ofNat 5, false = false]) := by kernel_rfl
theorem ft2_2 : pureCall XVm2 [] 200 34 [.int .i64 2] [false, true] = some (.tuple ⟨[.string ⟨⟨fT2⟩⟩, .int .i64 0]⟩, [true = true, false = false]) := by kernel_rfl
theorem ft1_3 : pureCall XVm2 [] 200 33 [.int .i64 3] [false] = some (.tuple ⟨[.string ⟨⟨fT3⟩⟩, .int .i64 0]⟩, [Int.ofNat 0 ≤ Int.ofNat 2 ∧ Int.ofNat 2 < Int.ofNat 5, false = false]) := by kernel_rfl
theorem ft2_3 : pureCall XVm2 [] 200 34 [.int .i64 3] [false, false, true] = some (.tuple ⟨[.string ⟨⟨fT3⟩⟩, .int .i64 0]⟩, [true = true, false = false, false = false]) := by kernel_rfl
theorem ft1_4 : pureCall XVm2 [] 200 33 [.int .i64 4] [false] = some (.tuple ⟨[.string ⟨⟨fT4⟩⟩, .int .i64 0]⟩, [Int.ofNat 0 ≤ Int.ofNat 3 ∧ Int.ofNat 3 < Int.ofNat 5, false = false]) := by kernel_rfl
theorem ft2_4 : pureCall XVm2 [] 200 34 [.int .i64 4] [false, false, false, true] = some (.tuple ⟨[.string ⟨⟨fT4⟩⟩, .int .i64 0]⟩, [true = true, false = false, false = false, false = false]) := by kernel_rfl
theorem ft1_5 : pureCall XVm2 [] 200 33 [.int .i64 5] [false] = some (.tuple ⟨[.string ⟨⟨fT5⟩⟩, .int .i64 0]⟩, [Int.ofNat 0 ≤ Int.ofNat 4 ∧ Int.ofNat 4 < Int.ofNat 5, false = false]) := by kernel_rfl
theorem ft2_5 : pureCall XVm2 [] 200 34 [.int .i64 5] [false, false, false, false, true] = some (.tuple ⟨[.string ⟨⟨fT5⟩⟩, .int .i64 0]⟩, [true = true, false = false, false = false, false = false, false = false]) := by kernel_rfl
theorem ft1_0 (f : Int) : pureCall XVm2 [] 200 33 [.int .i64 f] [true] = some (.tuple ⟨[.string ⟨⟨[]⟩⟩, .int .i64 1]⟩, [ofB f = true]) := by kernel_rfl
theorem ft2_0 (f : Int) : pureCall XVm2 [] 200 34 [.int .i64 f] [false, false, false, false, false] = some (.tuple ⟨[.string ⟨⟨[]⟩⟩, .int .i64 1]⟩, [(f == 5) = false, (f == 4) = false, (f == 3) = false, (f == 2) = false, (f == 1) = false]) := by kernel_rfl
def specFt : List Value → Option (Value × List Prop)
  | [.int .i64 f] => some (.tuple ⟨[.string ⟨⟨ftS f⟩⟩, .int .i64 (ftE f)]⟩, [])
  | _ => none
theorem ofB_iff {f : Int} : ofB f = true ↔ f < 1 ∨ f > 5 := by
  unfold ofB
  by_cases h : f < 1
  · rw [decide_eq_true h]; exact ⟨fun _ => .inl h, fun _ => rfl⟩
  · rw [decide_eq_false h]
    show decide (f > 5) = true ↔ _
    rw [decide_eq_true_iff]
    exact ⟨.inr, fun h' => h'.resolve_left h⟩
theorem specFt_ok1 (args : List Value) (v : Value) (l : List Prop) (h : specFt args = some (v, l)) (_ : allP l) : Ev.Pure Tryz.prog J0 33 args v := by
  unfold specFt at h
  split at h
  case h_2 => cases h
  rename_i f
  cases h
  by_cases h1 : f = 1
  · subst h1
    exact pureN bVm2_ok ft1_1 ⟨⟨by decide, by decide⟩, rfl, trivial⟩
  by_cases h2 : f = 2
  · subst h2
    exact pureN bVm2_ok ft1_2 ⟨⟨by decide, by decide⟩, rfl, trivial⟩
  by_cases h3 : f = 3
  · subst h3
    exact pureN bVm2_ok ft1_3 ⟨⟨by decide, by decide⟩, rfl, trivial⟩
  by_cases h4 : f = 4
  · subst h4
    exact pureN bVm2_ok ft1_4 ⟨⟨by decide, by decide⟩, rfl, trivial⟩
  by_cases h5 : f = 5
  · subst h5
    exact pureN bVm2_ok ft1_5 ⟨⟨by decide, by decide⟩, rfl, trivial⟩
  have hs : ftS f = [] := by unfold ftS; rw [if_neg h1, if_neg h2, if_neg h3, if_neg h4, if_neg h5]
  have hb : ofB f = true := ofB_iff.2 (by omega)
  have he : ftE f = 1 := by unfold ftE; rw [if_pos hb]
  rw [hs, he]
  exact pureN bVm2_ok (ft1_0 f) ⟨hb, trivial⟩
theorem specFt_ok2 (args : List Value) (v : Value) (l : List Prop) (h : specFt args = some (v, l)) (_ : allP l) : Ev.Pure Tryz.prog J0 34 args v := by
  unfold specFt at h
  split at h
  case h_2 => cases h
  rename_i f
  cases h
  by_cases h1 : f = 1
  · subst h1
    exact pureN bVm2_ok ft2_1 ⟨rfl, trivial⟩
  by_cases h2 : f = 2
  · subst h2
    exact pureN bVm2_ok ft2_2 ⟨rfl, rfl, trivial⟩
  by_cases h3 : f = 3
  · subst h3
    exact pureN bVm2_ok ft2_3 ⟨rfl, rfl, rfl, trivial⟩
  by_cases h4 : f = 4
  · subst h4
    exact pureN bVm2_ok ft2_4 ⟨rfl, rfl, rfl, rfl, trivial⟩
  by_cases h5 : f = 5
  · subst h5
    exact pureN bVm2_ok ft2_5 ⟨rfl, rfl, rfl, rfl, rfl, trivial⟩
  have hs : ftS f = [] := by unfold ftS; rw [if_neg h1, if_neg h2, if_neg h3, if_neg h4, if_neg h5]
  have hb : ofB f = true := ofB_iff.2 (by omega)
  have he : ftE f = 1 := by unfold ftE; rw [if_pos hb]
  rw [hs, he]
  exact pureN bVm2_ok (ft2_0 f) ⟨neI h5, neI h4, neI h3, neI h2, neI h1, trivial⟩

def pfN (c : List UInt8) : Int := if c = fT1 then 1 else if c = fT2 then 2 else if c = fT3 then 3 else if c = fT4 then 4 else if c = fT5 then 5 else 0
def pfE (c : List UInt8) : Int := if c = fT1 then 0 else if c = fT2 then 0 else if c = fT3 then 0 else if c = fT4 then 0 else if c = fT5 then 0 else 3
set_option maxRecDepth 100000 in
theorem pf1_0 (t : List UInt8) : pureCall XVm2 [] 200 35 [.string ⟨⟨t⟩⟩] [true, false, true, false, true, false, true, false, true, false, false] = some (.tuple ⟨[.int .i64 0, .int .i64 3]⟩, [false = false, (Lib.mapD capR t == fT5) = false, t.length ≤ 1048576, Int.ofNat 0 ≤ Int.ofNat 4 ∧ Int.ofNat 4 < Int.ofNat 5, true = true, (Lib.mapD capR t == fT4) = false, t.length ≤ 1048576, Int.ofNat 0 ≤ Int.ofNat 3 ∧ Int.ofNat 3 < Int.ofNat 5, true = true, (Lib.mapD capR t == fT3) = false, t.length ≤ 1048576, Int.ofNat 0 ≤ Int.ofNat 2 ∧ Int.ofNat 2 < Int.ofNat 5, true = true, (Lib.mapD capR t == fT2) = false, t.length ≤ 1048576, Int.ofNat 0 ≤ Int.ofNat 1 ∧ Int.ofNat 1 < Int.ofNat 5, true = true, (Lib.mapD capR t == fT1) = false, t.length ≤ 1048576, Int.ofNat 0 ≤ Int.ofNat 0 ∧ Int.ofNat 0 < Int.ofNat 5, true = true]) := by kernel_rfl
set_option maxRecDepth 100000 in
theorem pf1_1 (t : List UInt8) : pureCall XVm2 [] 200 35 [.string ⟨⟨t⟩⟩] [true, true] = some (.tuple ⟨[.int .i64 1, .int .i64 0]⟩, [(Lib.mapD capR t == fT1) = true, t.length ≤ 1048576, Int.ofNat 0 ≤ Int.ofNat 0 ∧ Int.ofNat 0 < Int.ofNat 5, true = true]) := by kernel_rfl
set_option maxRecDepth 100000 in
theorem pf1_2 (t : List UInt8) : pureCall XVm2 [] 200 35 [.string ⟨⟨t⟩⟩] [true, false, true, true] = some (.tuple ⟨[.int .i64 2, .int .i64 0]⟩, [(Lib.mapD capR t == fT2) = true, t.length ≤ 1048576, Int.ofNat 0 ≤ Int.ofNat 1 ∧ Int.ofNat 1 < Int.ofNat 5, true = true, (Lib.mapD capR t == fT1) = false, t.length ≤ 1048576, Int.ofNat 0 ≤ Int.ofNat 0 ∧ Int.ofNat 0 < Int.ofNat 5, true = true]) := by kernel_rfl
set_option maxRecDepth 100000 in
theorem pf1_3 (t : List UInt8) : pureCall XVm2 [] 200 35 [.string ⟨⟨t⟩⟩] [true, false, true, false, true, true] = some (.tuple ⟨[.int .i64 3, .int .i64 0]⟩, [(Lib.mapD capR t == fT3) = true, t.length ≤ 1048576, Int.ofNat 0 ≤ Int.ofNat 2 ∧ Int.ofNat 2 < Int.ofNat 5, true = true, (Lib.mapD capR t == fT2) = false, t.length ≤ 1048576, Int.ofNat 0 ≤ Int.ofNat 1 ∧ Int.ofNat 1 < Int.ofNat 5, true = true, (Lib.mapD capR t == fT1) = false, t.length ≤ 1048576, Int.ofNat 0 ≤ Int.ofNat 0 ∧ Int.ofNat 0 < Int.ofNat 5, true = true]) := by kernel_rfl
set_option maxRecDepth 100000 in
theorem pf1_4 (t : List UInt8) : pureCall XVm2 [] 200 35 [.string ⟨⟨t⟩⟩] [true, false, true, false, true, false, true, true] = some (.tuple ⟨[.int .i64 4, .int .i64 0]⟩, [(Lib.mapD capR t == fT4) = true, t.length ≤ 1048576, Int.ofNat 0 ≤ Int.ofNat 3 ∧ Int.ofNat 3 < Int.ofNat 5, true = true, (Lib.mapD capR t == fT3) = false, t.length ≤ 1048576, Int.ofNat 0 ≤ Int.ofNat 2 ∧ Int.ofNat 2 < Int.ofNat 5, true = true, (Lib.mapD capR t == fT2) = false, t.length ≤ 1048576, Int.ofNat 0 ≤ Int.ofNat 1 ∧ Int.ofNat 1 < Int.ofNat 5, true = true, (Lib.mapD capR t == fT1) = false, t.length ≤ 1048576, Int.ofNat 0 ≤ Int.ofNat 0 ∧ Int.ofNat 0 < Int.ofNat 5, true = true]) := by kernel_rfl
set_option maxRecDepth 100000 in
theorem pf1_5 (t : List UInt8) : pureCall XVm2 [] 200 35 [.string ⟨⟨t⟩⟩] [true, false, true, false, true, false, true, false, true, true] = some (.tuple ⟨[.int .i64 5, .int .i64 0]⟩, [(Lib.mapD capR t == fT5) = true, t.length ≤ 1048576, Int.ofNat 0 ≤ Int.ofNat 4 ∧ Int.ofNat 4 < Int.ofNat 5, true = true, (Lib.mapD capR t == fT4) = false, t.length ≤ 1048576, Int.ofNat 0 ≤ Int.ofNat 3 ∧ Int.ofNat 3 < Int.ofNat 5, true = true, (Lib.mapD capR t == fT3) = false, t.length ≤ 1048576, Int.ofNat 0 ≤ Int.ofNat 2 ∧ Int.ofNat 2 < Int.ofNat 5, true = true, (Lib.mapD capR t == fT2) = false, t.length ≤ 1048576, Int.ofNat 0 ≤ Int.ofNat 1 ∧ Int.ofNat 1 < Int.ofNat 5, true = true, (Lib.mapD capR t == fT1) = false, t.length ≤ 1048576, Int.ofNat 0 ≤ Int.ofNat 0 ∧ Int.ofNat 0 < Int.ofNat 5, true = true]) := by kernel_rfl
set_option maxRecDepth 100000 in
theorem pf2_0 (t : List UInt8) : pureCall XVm2 [] 200 36 [.string ⟨⟨t⟩⟩] [true, false, true, false, true, false, true, false, true, false, false] = some (.tuple ⟨[.int .i64 0, .int .i64 3]⟩, [false = false, (t.map capC == fT5) = false, t.length ≤ 1048576, true = true, (t.map capC == fT4) = false, t.length ≤ 1048576, true = true, (t.map capC == fT3) = false, t.length ≤ 1048576, true = true, (t.map capC == fT2) = false, t.length ≤ 1048576, true = true, (t.map capC == fT1) = false, t.length ≤ 1048576, true = true]) := by kernel_rfl
set_option maxRecDepth 100000 in
theorem pf2_1 (t : List UInt8) : pureCall XVm2 [] 200 36 [.string ⟨⟨t⟩⟩] [true, true] = some (.tuple ⟨[.int .i64 1, .int .i64 0]⟩, [(t.map capC == fT1) = true, t.length ≤ 1048576, true = true]) := by kernel_rfl
set_option maxRecDepth 100000 in
theorem pf2_2 (t : List UInt8) : pureCall XVm2 [] 200 36 [.string ⟨⟨t⟩⟩] [true, false, true, true] = some (.tuple ⟨[.int .i64 2, .int .i64 0]⟩, [(t.map capC == fT2) = true, t.length ≤ 1048576, true = true, (t.map capC == fT1) = false, t.length ≤ 1048576, true = true]) := by kernel_rfl
set_option maxRecDepth 100000 in
theorem pf2_3 (t : List UInt8) : pureCall XVm2 [] 200 36 [.string ⟨⟨t⟩⟩] [true, false, true, false, true, true] = some (.tuple ⟨[.int .i64 3, .int .i64 0]⟩, [(t.map capC == fT3) = true, t.length ≤ 1048576, true = true, (t.map capC == fT2) = false, t.length ≤ 1048576, true = true, (t.map capC == fT1) = false, t.length ≤ 1048576, true = true]) := by kernel_rfl
set_option maxRecDepth 100000 in
theorem pf2_4 (t : List UInt8) : pureCall XVm2 [] 200 36 [.string ⟨⟨t⟩⟩] [true, false, true, false, true, false, true, true] = some (.tuple ⟨[.int .i64 4, .int .i64 0]⟩, [(t.map capC == fT4) = true, t.length ≤ 1048576, true = true, (t.map capC == fT3) = false, t.length ≤ 1048576, true = true, (t.map capC == fT2) = false, t.length ≤ 1048576, true = true, (t.map capC == fT1) = false, t.length ≤ 1048576, true = true]) := by kernel_rfl
set_option maxRecDepth 100000 in
theorem pf2_5 (t : List UInt8) : pureCall XVm2 [] 200 36 [.string ⟨⟨t⟩⟩] [true, false, true, false, true, false, true, false, true, true] = some (.tuple ⟨[.int .i64 5, .int .i64 0]⟩, [(t.map capC == fT5) = true, t.length ≤ 1048576, true = true, (t.map capC == fT4) = false, t.length ≤ 1048576, true = true, (t.map capC == fT3) = false, t.length ≤ 1048576, true = true, (t.map capC == fT2) = false, t.length ≤ 1048576, true = true, (t.map capC == fT1) = false, t.length ≤ 1048576, true = true]) := by kernel_rfl
def specPf2 : List Value → Option (Value × List Prop)
  | [.string ⟨⟨t⟩⟩] => some (.tuple ⟨[.int .i64 (pfN (t.map capC)), .int .i64 (pfE (t.map capC))]⟩, [t.length ≤ 1048576])
  | _ => none
theorem specPf2_ok1 (args : List Value) (v : Value) (l : List Prop) (h : specPf2 args = some (v, l)) (hl : allP l) : Ev.Pure Tryz.prog J0 35 args v := by
  unfold specPf2 at h
  split at h
  case h_2 => cases h
  rename_i t
  cases h
  unfold pfN pfE
  have hz := hl.1
  by_cases h1 : t.map capC = fT1
  · rw [if_pos h1, if_pos h1]
    exact pureN bVm2_ok (pf1_1 t) ⟨(by rw [cap_same t (by decide)]; exact beq_iff_eq.2 h1), hz, ⟨by decide, by decide⟩, rfl, trivial⟩
  rw [if_neg h1, if_neg h1]
  by_cases h2 : t.map capC = fT2
  · rw [if_pos h2, if_pos h2]
    exact pureN bVm2_ok (pf1_2 t) ⟨(by rw [cap_same t (by decide)]; exact beq_iff_eq.2 h2), hz, ⟨by decide, by decide⟩, rfl, (by rw [cap_same t (by decide)]; exact beq_false_of_ne h1), hz, ⟨by decide, by decide⟩, rfl, trivial⟩
  rw [if_neg h2, if_neg h2]
  by_cases h3 : t.map capC = fT3
  · rw [if_pos h3, if_pos h3]
    exact pureN bVm2_ok (pf1_3 t) ⟨(by rw [cap_same t (by decide)]; exact beq_iff_eq.2 h3), hz, ⟨by decide, by decide⟩, rfl, (by rw [cap_same t (by decide)]; exact beq_false_of_ne h2), hz, ⟨by decide, by decide⟩, rfl, (by rw [cap_same t (by decide)]; exact beq_false_of_ne h1), hz, ⟨by decide, by decide⟩, rfl, trivial⟩
  rw [if_neg h3, if_neg h3]
  by_cases h4 : t.map capC = fT4
  · rw [if_pos h4, if_pos h4]
    exact pureN bVm2_ok (pf1_4 t) ⟨(by rw [cap_same t (by decide)]; exact beq_iff_eq.2 h4), hz, ⟨by decide, by decide⟩, rfl, (by rw [cap_same t (by decide)]; exact beq_false_of_ne h3), hz, ⟨by decide, by decide⟩, rfl, (by rw [cap_same t (by decide)]; exact beq_false_of_ne h2), hz, ⟨by decide, by decide⟩, rfl, (by rw [cap_same t (by decide)]; exact beq_false_of_ne h1), hz, ⟨by decide, by decide⟩, rfl, trivial⟩
  rw [if_neg h4, if_neg h4]
  by_cases h5 : t.map capC = fT5
  · rw [if_pos h5, if_pos h5]
    exact pureN bVm2_ok (pf1_5 t) ⟨(by rw [cap_same t (by decide)]; exact beq_iff_eq.2 h5), hz, ⟨by decide, by decide⟩, rfl, (by rw [cap_same t (by decide)]; exact beq_false_of_ne h4), hz, ⟨by decide, by decide⟩, rfl, (by rw [cap_same t (by decide)]; exact beq_false_of_ne h3), hz, ⟨by decide, by decide⟩, rfl, (by rw [cap_same t (by decide)]; exact beq_false_of_ne h2), hz, ⟨by decide, by decide⟩, rfl, (by rw [cap_same t (by decide)]; exact beq_false_of_ne h1), hz, ⟨by decide, by decide⟩, rfl, trivial⟩
  rw [if_neg h5, if_neg h5]
  exact pureN bVm2_ok (pf1_0 t) ⟨rfl, (by rw [cap_same t (by decide)]; exact beq_false_of_ne h5), hz, ⟨by decide, by decide⟩, rfl, (by rw [cap_same t (by decide)]; exact beq_false_of_ne h4), hz, ⟨by decide, by decide⟩, rfl, (by rw [cap_same t (by decide)]; exact beq_false_of_ne h3), hz, ⟨by decide, by decide⟩, rfl, (by rw [cap_same t (by decide)]; exact beq_false_of_ne h2), hz, ⟨by decide, by decide⟩, rfl, (by rw [cap_same t (by decide)]; exact beq_false_of_ne h1), hz, ⟨by decide, by decide⟩, rfl, trivial⟩
theorem specPf2_ok2 (args : List Value) (v : Value) (l : List Prop) (h : specPf2 args = some (v, l)) (hl : allP l) : Ev.Pure Tryz.prog J0 36 args v := by
  unfold specPf2 at h
  split at h
  case h_2 => cases h
  rename_i t
  cases h
  unfold pfN pfE
  have hz := hl.1
  by_cases h1 : t.map capC = fT1
  · rw [if_pos h1, if_pos h1]
    exact pureN bVm2_ok (pf2_1 t) ⟨(beq_iff_eq.2 h1), hz, rfl, trivial⟩
  rw [if_neg h1, if_neg h1]
  by_cases h2 : t.map capC = fT2
  · rw [if_pos h2, if_pos h2]
    exact pureN bVm2_ok (pf2_2 t) ⟨(beq_iff_eq.2 h2), hz, rfl, (beq_false_of_ne h1), hz, rfl, trivial⟩
  rw [if_neg h2, if_neg h2]
  by_cases h3 : t.map capC = fT3
  · rw [if_pos h3, if_pos h3]
    exact pureN bVm2_ok (pf2_3 t) ⟨(beq_iff_eq.2 h3), hz, rfl, (beq_false_of_ne h2), hz, rfl, (beq_false_of_ne h1), hz, rfl, trivial⟩
  rw [if_neg h3, if_neg h3]
  by_cases h4 : t.map capC = fT4
  · rw [if_pos h4, if_pos h4]
    exact pureN bVm2_ok (pf2_4 t) ⟨(beq_iff_eq.2 h4), hz, rfl, (beq_false_of_ne h3), hz, rfl, (beq_false_of_ne h2), hz, rfl, (beq_false_of_ne h1), hz, rfl, trivial⟩
  rw [if_neg h4, if_neg h4]
  by_cases h5 : t.map capC = fT5
  · rw [if_pos h5, if_pos h5]
    exact pureN bVm2_ok (pf2_5 t) ⟨(beq_iff_eq.2 h5), hz, rfl, (beq_false_of_ne h4), hz, rfl, (beq_false_of_ne h3), hz, rfl, (beq_false_of_ne h2), hz, rfl, (beq_false_of_ne h1), hz, rfl, trivial⟩
  rw [if_neg h5, if_neg h5]
  exact pureN bVm2_ok (pf2_0 t) ⟨rfl, (beq_false_of_ne h5), hz, rfl, (beq_false_of_ne h4), hz, rfl, (beq_false_of_ne h3), hz, rfl, (beq_false_of_ne h2), hz, rfl, (beq_false_of_ne h1), hz, rfl, trivial⟩
noncomputable def tabVm3 : Tab := tabAdd 23 specNu (tabAdd 24 specNu (tabAdd 25 specOt (tabAdd 26 specOt (tabAdd 29 specOf2 (tabAdd 30 specOf2 (tabAdd 31 specBe (tabAdd 32 specBe (tabAdd 33 specFt (tabAdd 34 specFt (tabAdd 35 specPf2 (tabAdd 36 specPf2 (tabN0))))))))))))
theorem tabVm3_ok : PcOk Tryz.prog J0 tabVm3 := tabAdd_ok specNu_ok1 (tabAdd_ok specNu_ok2 (tabAdd_ok specOt_ok1 (tabAdd_ok specOt_ok2 (tabAdd_ok specOf_ok1 (tabAdd_ok specOf_ok2 (tabAdd_ok specBe_ok1 (tabAdd_ok specBe_ok2 (tabAdd_ok specFt_ok1 (tabAdd_ok specFt_ok2 (tabAdd_ok specPf2_ok1 (tabAdd_ok specPf2_ok2 (tabN0_ok))))))))))))
noncomputable def bVm3 : Base := ⟨Tryz.prog, J0, false, tabVm3, mtab0, 2000, xtN0⟩
theorem bVm3_ok : BaseOk bVm3 := ⟨progOk, tabVm3_ok, mtab0_ok _ _, xtN0_ok⟩

end Go.Proofs.YtaopinmjgjpiiaaGreatDoor
