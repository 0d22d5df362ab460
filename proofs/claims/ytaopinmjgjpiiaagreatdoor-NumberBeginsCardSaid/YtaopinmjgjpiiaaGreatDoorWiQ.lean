/-
  math/bits: the quotient of two words by one, as a contract.
-/
import Derived.Test.YtaopinmjgjpiiaaGreatDoorWiP
namespace Go.Proofs.YtaopinmjgjpiiaaGreatDoor
open Go Go.RowKit Ev Wd

noncomputable def cDiv1 : Code := loopAt Tryz.prog 249 0
noncomputable def cDiv2 : Code := loopAt Tryz.prog 249 1
def TD1 (y s yn1 yn0 un32 un10 un1 un0 q r : Int) : St := ⟨only 135 [(2, .int .u64 y), (8, .int .u64 s), (9, .int .u64 yn1), (10, .int .u64 yn0), (11, .int .u64 un32), (12, .int .u64 un10), (13, .int .u64 un1), (14, .int .u64 un0), (15, .int .u64 q), (16, .int .u64 r)], [], 11, [], [], 0, none, [], 11⟩
def TE1 (y s yn1 yn0 un32 un10 un1 un0 q : Int) : St := ⟨only 135 [(2, .int .u64 y), (8, .int .u64 s), (9, .int .u64 yn1), (10, .int .u64 yn0), (11, .int .u64 un32), (12, .int .u64 un10), (13, .int .u64 un1), (14, .int .u64 un0), (15, .int .u64 q)], [], 11, [], [], 0, none, [], 11⟩
def TD2 (y s yn1 yn0 un0 q1 un21 q r : Int) : St := ⟨only 135 [(2, .int .u64 y), (8, .int .u64 s), (9, .int .u64 yn1), (10, .int .u64 yn0), (14, .int .u64 un0), (15, .int .u64 q1), (16, .int .u64 r), (17, .int .u64 un21), (18, .int .u64 q)], [], 11, [], [], 0, none, [], 11⟩
def TE2 (y s yn1 yn0 un0 q1 un21 q : Int) : St := ⟨only 135 [(2, .int .u64 y), (8, .int .u64 s), (9, .int .u64 yn1), (10, .int .u64 yn0), (14, .int .u64 un0), (15, .int .u64 q1), (17, .int .u64 un21), (18, .int .u64 q)], [], 11, [], [], 0, none, [], 11⟩
noncomputable def S1 (hi lo y : Int) : St := startAt XW3 200 249 [.int .u64 hi, .int .u64 lo, .int .u64 y] J0.tabs 11 [false, false, false]
/-- Is a digit too great? -/
def dC (yn0 u q r : Int) : Bool := match decide (q ≥ 4294967296) with
  | true => true
  | false => decide (IntKind.u64.wrap (q * yn0) > IntKind.u64.wrap (IntKind.u64.wrap (4294967296 * r) + u))
section
variable (y s yn1 yn0 un32 un10 un1 un0 q r q1 un21 : Int)
set_option maxRecDepth 100000
theorem d1_break (h : dC yn0 un1 q r = true) (h2 : decide ((4294967296 : Int) ≤ IntKind.u64.wrap (r + yn1)) = true) : Step XW3 cDiv1 (TD1 y s yn1 yn0 un32 un10 un1 un0 q r) (.exit 0) (TE1 y s yn1 yn0 un32 un10 un1 un0 (IntKind.u64.wrap (q - 1))) :=
  step_of (Base.cx_ok bW3_ok 10).1 progOk.mixed [] 200 [true, true] [] (l := [decide ((4294967296 : Int) ≤ IntKind.u64.wrap (r + yn1)) = true, dC yn0 un1 q r = true]) (by kernel_rfl) ⟨h2, h, trivial⟩ (by kernel_rfl) (by kernel_rfl)
theorem d1_next (h : dC yn0 un1 q r = true) (h2 : decide ((4294967296 : Int) ≤ IntKind.u64.wrap (r + yn1)) = false) : Step XW3 cDiv1 (TD1 y s yn1 yn0 un32 un10 un1 un0 q r) .normal (TD1 y s yn1 yn0 un32 un10 un1 un0 (IntKind.u64.wrap (q - 1)) (IntKind.u64.wrap (r + yn1))) :=
  step_of (Base.cx_ok bW3_ok 10).1 progOk.mixed [] 200 [true, false] [] (l := [decide ((4294967296 : Int) ≤ IntKind.u64.wrap (r + yn1)) = false, dC yn0 un1 q r = true]) (by kernel_rfl) ⟨h2, h, trivial⟩ (by kernel_rfl) (by kernel_rfl)
theorem d1_out (h : dC yn0 un1 q r = false) : Step XW3 cDiv1 (TD1 y s yn1 yn0 un32 un10 un1 un0 q r) (.exit 0) (TE1 y s yn1 yn0 un32 un10 un1 un0 q) :=
  step_of (Base.cx_ok bW3_ok 10).1 progOk.mixed [] 200 [false] [] (l := [dC yn0 un1 q r = false]) (by kernel_rfl) ⟨h, trivial⟩ (by kernel_rfl) (by kernel_rfl)
theorem d2_break (h : dC yn0 un0 q r = true) (h2 : decide ((4294967296 : Int) ≤ IntKind.u64.wrap (r + yn1)) = true) : Step XW3 cDiv2 (TD2 y s yn1 yn0 un0 q1 un21 q r) (.exit 2) (TE2 y s yn1 yn0 un0 q1 un21 (IntKind.u64.wrap (q - 1))) :=
  step_of (Base.cx_ok bW3_ok 10).1 progOk.mixed [] 200 [true, true] [] (l := [decide ((4294967296 : Int) ≤ IntKind.u64.wrap (r + yn1)) = true, dC yn0 un0 q r = true]) (by kernel_rfl) ⟨h2, h, trivial⟩ (by kernel_rfl) (by kernel_rfl)
theorem d2_next (h : dC yn0 un0 q r = true) (h2 : decide ((4294967296 : Int) ≤ IntKind.u64.wrap (r + yn1)) = false) : Step XW3 cDiv2 (TD2 y s yn1 yn0 un0 q1 un21 q r) .normal (TD2 y s yn1 yn0 un0 q1 un21 (IntKind.u64.wrap (q - 1)) (IntKind.u64.wrap (r + yn1))) :=
  step_of (Base.cx_ok bW3_ok 10).1 progOk.mixed [] 200 [true, false] [] (l := [decide ((4294967296 : Int) ≤ IntKind.u64.wrap (r + yn1)) = false, dC yn0 un0 q r = true]) (by kernel_rfl) ⟨h2, h, trivial⟩ (by kernel_rfl) (by kernel_rfl)
theorem d2_out (h : dC yn0 un0 q r = false) : Step XW3 cDiv2 (TD2 y s yn1 yn0 un0 q1 un21 q r) (.exit 2) (TE2 y s yn1 yn0 un0 q1 un21 q) :=
  step_of (Base.cx_ok bW3_ok 10).1 progOk.mixed [] 200 [false] [] (l := [dC yn0 un0 q r = false]) (by kernel_rfl) ⟨h, trivial⟩ (by kernel_rfl) (by kernel_rfl)
end

/-! What the words are. -/
def dS (y : Int) : Int := IntKind.u64.wrap (IntKind.i64.wrap (64 - len64 y))
def dSh (x s : Int) : Int := IntKind.u64.wrap (x * 2 ^ (min s.toNat 64))
def dHi (x : Int) : Int := x.fdiv 4294967296
def dLo (x : Int) : Int := bits .and .u64 x 4294967295
def dU (hi lo s : Int) : Int := bits .or .u64 (dSh hi s) (lo.fdiv (2 ^ (min (IntKind.u64.wrap (64 - s)).toNat 64)))
def dQ (u v : Int) : Int := IntKind.u64.wrap (u.tdiv v)
def dR (u v : Int) : Int := IntKind.u64.wrap (u - IntKind.u64.wrap (dQ u v * v))
def dN (u a q y : Int) : Int := IntKind.u64.wrap (IntKind.u64.wrap (IntKind.u64.wrap (u * 4294967296) + a) - IntKind.u64.wrap (q * y))

section
variable (hi lo y s q yv yn1 yn0 un32 un10 un1 un0 q1 un21 q0 : Int)
set_option maxRecDepth 100000
theorem d1_into (x : AX) (s' : St) (h : LoopTo XW3 cDiv1 (TD1 (dSh y (dS y)) (dS y) (dHi (dSh y (dS y))) (dLo (dSh y (dS y))) (dU hi lo (dS y)) (dSh lo (dS y)) (dHi (dSh lo (dS y))) (dLo (dSh lo (dS y))) (dQ (dU hi lo (dS y)) (dHi (dSh y (dS y)))) (dR (dU hi lo (dS y)) (dHi (dSh y (dS y))))) x s') :
    LoopTo XW3 cDiv1 (S1 hi lo y) x s' := loop_into' h [] (by kernel_rfl) (by kernel_rfl) (by kernel_rfl)
end

noncomputable def codeOf (f : Nat) : Code := match nthF Tryz.prog.funcs.toList f with
  | some fn => match fn.body with
    | some c => c
    | none => .skip
  | none => .skip
/-- At the second loop. -/
noncomputable def S2 (hi lo y : Int) (e : St) : St := match evCode XW3 [told (.exit 0) (fun _ => e), fun s => some (.exit 1000000, s)] 200 (codeOf 249) ⟨([.int .u64 hi, .int .u64 lo, .int .u64 y] : List Value).map .v ++ List.replicate 132 (.v undef), J0.tabs, 11, [false, false, false], [], 0, none, [], 11⟩ with
  | some (_, s) => s.core
  | none => e
set_option maxRecDepth 100000 in
theorem div_way0 (hi lo y : Int) : pureCall XW3 [] 200 249 [.int .u64 hi, .int .u64 lo, .int .u64 y] [false, false, true] = some (Value.tuple { toList := [Value.int IntKind.u64 (IntKind.u64.wrap (lo.tdiv y)), Value.int IntKind.u64 (lo.tmod y)] }, [y = 0 → False, y = 0 → False, (hi == Int.ofNat 0) = true, decide (y ≤ hi) = false, (y == Int.ofNat 0) = false]) := by kernel_rfl
set_option maxRecDepth 100000 in
theorem div_way (hi lo y yv s yn1 yn0 un32 un10 un1 un0 q1 un21 q0 : Int) : pureCall XW3 [told (.exit 0) (fun _ => TE1 yv s yn1 yn0 un32 un10 un1 un0 q1), told (.exit 2) (fun _ => TE2 yv s yn1 yn0 un0 q1 un21 q0)] 200 249 [.int .u64 hi, .int .u64 lo, .int .u64 y] [false, false, false] = some (Value.tuple { toList := [Value.int IntKind.u64 (IntKind.u64.wrap (IntKind.u64.wrap (q1 * Int.ofNat 4294967296) + q0)), Value.int IntKind.u64 ((IntKind.u64.wrap (IntKind.u64.wrap (IntKind.u64.wrap (un21 * Int.ofNat 4294967296) + un0) - IntKind.u64.wrap (q0 * yv))).fdiv (Int.ofNat (2 ^ min s.toNat 64)))] }, [Int.ofNat 0 ≤ s, LoopTo XW3 cDiv2 (S2 hi lo y (TE1 yv s yn1 yn0 un32 un10 un1 un0 q1)) (.exit 2) (TE2 yv s yn1 yn0 un0 q1 un21 q0), yn1 = 0 → False, LoopTo XW3 cDiv1 (S1 hi lo y) (.exit 0) (TE1 yv s yn1 yn0 un32 un10 un1 un0 q1), (IntKind.u64.wrap (y * 2 ^ min (IntKind.u64.wrap (IntKind.i64.wrap (64 - len64 y))).toNat IntKind.u64.bits)).fdiv (2 ^ min (Int.toNat 32) IntKind.u64.bits) = 0 → False, Int.ofNat 0 ≤ IntKind.u64.wrap (IntKind.i64.wrap (Int.ofNat 64 - len64 y)), Int.ofNat 0 ≤ IntKind.u64.wrap (Int.ofNat 64 - IntKind.u64.wrap (IntKind.i64.wrap (Int.ofNat 64 - len64 y))), Int.ofNat 0 ≤ IntKind.u64.wrap (IntKind.i64.wrap (Int.ofNat 64 - len64 y)), Int.ofNat 0 ≤ IntKind.u64.wrap (IntKind.i64.wrap (Int.ofNat 64 - len64 y)), Int.ofNat 0 ≤ y ∧ y < Int.ofNat 18446744073709551616, (hi == Int.ofNat 0) = false, decide (y ≤ hi) = false, (y == Int.ofNat 0) = false]) := by kernel_rfl

set_option maxRecDepth 100000 in
theorem d2_into (hi lo y yv s yn1 yn0 un32 un10 un1 un0 q1 : Int) (x : AX) (s' : St) (h : LoopTo XW3 cDiv2 (TD2 yv s yn1 yn0 un0 q1 (dN un32 un1 q1 yv) (dQ (dN un32 un1 q1 yv) yn1) (dR (dN un32 un1 q1 yv) yn1)) x s') :
    LoopTo XW3 cDiv2 (S2 hi lo y (TE1 yv s yn1 yn0 un32 un10 un1 un0 q1)) x s' := loop_into' h [] (by kernel_rfl) (by kernel_rfl) (by kernel_rfl)


/-! What the loops find. -/

theorem u64_of {n : Nat} (h : n < 18446744073709551616) : IntKind.u64.wrap (n : Int) = n := by
  have := IntKind.wrap_u64 (n : Int)
  omega

/-- A digit of a quotient: of two halves of words by a word whose first bit is 1. -/
theorem knuth {X : Cx} {c : Code} {x : AX} (hx : x ≠ .normal) (S : Int → Int → St) (E : Int → St) {Y y1 y0 U u : Nat} (hY : Y = y1 * 4294967296 + y0) (h1 : 2147483648 ≤ y1) (h2 : y1 < 4294967296) (h3 : y0 < 4294967296) (hU : U < Y) (hu : u < 4294967296)
    (s1 : ∀ q r : Int, dC y0 u q r = true → decide ((4294967296 : Int) ≤ IntKind.u64.wrap (r + (y1 : Int))) = true → Step X c (S q r) x (E (IntKind.u64.wrap (q - 1))))
    (s2 : ∀ q r : Int, dC y0 u q r = true → decide ((4294967296 : Int) ≤ IntKind.u64.wrap (r + (y1 : Int))) = false → Step X c (S q r) .normal (S (IntKind.u64.wrap (q - 1)) (IntKind.u64.wrap (r + (y1 : Int)))))
    (s3 : ∀ q r : Int, dC y0 u q r = false → Step X c (S q r) x (E q)) :
    LoopTo X c (S ((U / y1 : Nat) : Int) ((U % y1 : Nat) : Int)) x (E (((U * 4294967296 + u) / Y : Nat) : Int)) := by
  have hYp : 0 < Y := by omega
  -- the true digit
  have hT : ∀ q : Nat, q * Y ≤ U * 4294967296 + u ↔ q ≤ (U * 4294967296 + u) / Y := fun q => (Nat.le_div_iff_mul_le hYp).symm
  have hTB : (U * 4294967296 + u) / Y < 4294967296 := by
    rw [Nat.div_lt_iff_lt_mul hYp]
    have : (U + 1) * 4294967296 ≤ Y * 4294967296 := Nat.mul_le_mul_right _ hU
    omega
  have hT0 : ∀ q : Nat, U * 4294967296 + u < (q + 1) * Y → (U * 4294967296 + u) / Y ≤ q := fun q h => by
    have := (Nat.div_lt_iff_lt_mul hYp).2 h
    omega
  generalize (U * 4294967296 + u) / Y = t at *
  have hmul : ∀ q : Nat, q * Y = q * y1 * 4294967296 + q * y0 := fun q => by rw [hY, Nat.mul_add, Nat.mul_assoc]
  have e0 : U - U / y1 * y1 = U % y1 := by
    have hd := Nat.div_add_mod U y1
    rw [Nat.mul_comm] at hd
    omega
  rw [← e0]
  refine loop_of (fun q : Nat => S q ((U - q * y1 : Nat) : Int)) id (fun q => t ≤ q ∧ q * y1 ≤ U ∧ U - q * y1 < 4294967296) hx (fun q hq => ?_) (U / y1) ?_
  · obtain ⟨g1, g2, g3⟩ := hq
    have hle : q ≤ 4294967300 := by
      rcases Nat.lt_or_ge 4294967300 q with h | h
      · have : 4294967301 * y1 ≤ q * y1 := Nat.mul_le_mul_right _ h
        omega
      · exact h
    have em := hmul q
    have hqt := hT q
    generalize hm : q * y1 = m at *
    have hq0 : q < 4294967296 → q * y0 < 18446744073709551616 := fun h => by
      have : q * y0 ≤ 4294967295 * 4294967295 := Nat.mul_le_mul (by omega) (by omega)
      omega
    have hwr : IntKind.u64.wrap (IntKind.u64.wrap (4294967296 * ((U - m : Nat) : Int)) + (u : Int)) = ((4294967296 * (U - m) + u : Nat) : Int) := by
      have e1 : (4294967296 : Int) * ((U - m : Nat) : Int) = ((4294967296 * (U - m) : Nat) : Int) := by omega
      rw [e1, u64_of (by omega)]
      have e2 : ((4294967296 * (U - m) : Nat) : Int) + (u : Int) = ((4294967296 * (U - m) + u : Nat) : Int) := by omega
      rw [e2, u64_of (by omega)]
    have hc : dC y0 u (q : Int) ((U - m : Nat) : Int) = true ↔ t < q := by
      unfold dC
      by_cases hb : 4294967296 ≤ q
      · have : decide ((q : Int) ≥ 4294967296) = true := by simp; omega
        rw [this]
        simp only [true_iff]
        omega
      · have : decide ((q : Int) ≥ 4294967296) = false := by simp; omega
        rw [this, hwr]
        have e3 : (q : Int) * (y0 : Int) = ((q * y0 : Nat) : Int) := by rw [Int.natCast_mul]
        rw [e3, u64_of (hq0 (by omega))]
        simp only [decide_eq_true_eq]
        omega
    by_cases hcond : dC y0 u (q : Int) ((U - m : Nat) : Int) = true
    · have hlt := hc.1 hcond
      have ew : IntKind.u64.wrap ((q : Int) - 1) = ((q - 1 : Nat) : Int) := by
        have : (q : Int) - 1 = ((q - 1 : Nat) : Int) := by omega
        rw [this, u64_of (by omega)]
      have er : IntKind.u64.wrap (((U - m : Nat) : Int) + (y1 : Int)) = ((U - m + y1 : Nat) : Int) := by
        have : ((U - m : Nat) : Int) + (y1 : Int) = ((U - m + y1 : Nat) : Int) := by omega
        rw [this, u64_of (by omega)]
      have hm1 : (q - 1) * y1 + y1 = m := by
        rw [← hm, ← Nat.succ_mul]
        congr 1
        omega
      have em1 := hmul (q - 1)
      have hqt1 := hT (q - 1)
      generalize hm2 : (q - 1) * y1 = m1 at *
      by_cases hbr : 4294967296 ≤ U - m + y1
      · right
        have := s1 q ((U - m : Nat) : Int) hcond (by rw [er]; simp only [decide_eq_true_eq]; omega)
        rw [ew] at this
        have hqB : q - 1 < 4294967296 := by
          rcases Nat.lt_or_ge (q - 1) 4294967296 with h | h
          · exact h
          · have : 4294967296 * y1 ≤ (q - 1) * y1 := Nat.mul_le_mul_right _ h
            omega
        have hq1 : (q - 1) * y0 ≤ 4294967295 * 4294967295 := Nat.mul_le_mul (by omega) (by omega)
        have he : q - 1 = t := by
          apply Nat.le_antisymm
          · rw [← hqt1]
            omega
          · omega
        rw [← he]
        exact this
      · left
        have := s2 q ((U - m : Nat) : Int) hcond (by rw [er]; simp only [decide_eq_false_iff_not]; omega)
        rw [ew, er] at this
        refine ⟨q - 1, ⟨by omega, by rw [hm2]; omega, by rw [hm2]; omega⟩, by simp only [id]; omega, ?_⟩
        rw [hm2]
        have e : U - m1 = U - m + y1 := by omega
        rw [e]
        exact this
    · right
      have hcond' : dC y0 u (q : Int) ((U - m : Nat) : Int) = false := by simpa using hcond
      have he : q = t := by
        have : ¬ t < q := fun h => hcond (hc.2 h)
        omega
      rw [← he]
      exact s3 q _ hcond'
  · have hd := Nat.div_add_mod U y1
    have hmd : U % y1 < y1 := Nat.mod_lt _ (by omega)
    rw [Nat.mul_comm] at hd
    refine ⟨?_, by omega, by omega⟩
    refine hT0 _ ?_
    have : (U * 4294967296 + u) < (U / y1 + 1) * Y := by
      have e := hmul (U / y1 + 1)
      have e2 : (U / y1 + 1) * y1 = U / y1 * y1 + y1 := by rw [Nat.add_mul, Nat.one_mul]
      omega
    exact this

theorem dHi_nat (n : Nat) : dHi n = ((n / 4294967296 : Nat) : Int) := by unfold dHi; rw [Int.fdiv_eq_ediv_of_nonneg _ (by omega)]; omega
theorem dLo_nat {n : Nat} (h : n < 18446744073709551616) : dLo n = ((n % 4294967296 : Nat) : Int) := by
  unfold dLo
  have := bits_and_u64_nat n 4294967295 h (by omega)
  have e : n &&& 4294967295 = n % 4294967296 := Nat.and_two_pow_sub_one_eq_mod n 32
  rw [e] at this
  exact this
theorem dQ_nat {u v : Nat} (hu : u < 18446744073709551616) : dQ u v = ((u / v : Nat) : Int) := by
  unfold dQ
  have : (u : Int).tdiv (v : Int) = ((u / v : Nat) : Int) := (Int.ofNat_tdiv u v).symm
  rw [this, u64_of (Nat.lt_of_le_of_lt (Nat.div_le_self u v) hu)]
theorem dR_nat {u v : Nat} (hu : u < 18446744073709551616) (hv : v < 18446744073709551616) (hv0 : 0 < v) : dR u v = ((u % v : Nat) : Int) := by
  unfold dR
  rw [dQ_nat hu]
  have hd := Nat.div_add_mod u v
  rw [Nat.mul_comm] at hd
  have e : ((u / v : Nat) : Int) * (v : Int) = ((u / v * v : Nat) : Int) := by rw [Int.natCast_mul]
  have hm := Nat.mod_lt u hv0
  rw [e, u64_of (by omega)]
  have e2 : (u : Int) - ((u / v * v : Nat) : Int) = ((u % v : Nat) : Int) := by omega
  rw [e2, u64_of (by omega)]
/-- What is left: modulo 2^64. -/
theorem dN_nat {u a q y r : Nat} (h : u * 4294967296 + a = q * y + r) (hr : r < 18446744073709551616) : dN u a q y = (r : Int) := by
  unfold dN
  simp only [IntKind.wrap_u64]
  have e1 : (q : Int) * (y : Int) = ((q * y : Nat) : Int) := by rw [Int.natCast_mul]
  rw [e1]
  generalize q * y = m at *
  omega

theorem dSh_nat {x s : Nat} (hs : s ≤ 64) : dSh x s = ((x * 2 ^ s % 18446744073709551616 : Nat) : Int) := by
  unfold dSh
  rw [Int.toNat_natCast, Nat.min_eq_left hs, IntKind.wrap_u64]
  have : (x : Int) * 2 ^ s = ((x * 2 ^ s : Nat) : Int) := by rw [Int.natCast_mul, Int.natCast_pow]; rfl
  rw [this]
  omega

theorem dU_nat {hi lo s : Nat} (hs : s ≤ 64) (h1 : hi * 2 ^ s < 18446744073709551616) (h2 : lo < 18446744073709551616) : dU hi lo s = ((hi * 2 ^ s + lo / 2 ^ (64 - s) : Nat) : Int) := by
  unfold dU
  rw [dSh_nat hs, Nat.mod_eq_of_lt h1]
  have e1 : IntKind.u64.wrap (64 - (s : Int)) = ((64 - s : Nat) : Int) := by
    have : (64 : Int) - (s : Int) = ((64 - s : Nat) : Int) := by omega
    rw [this, u64_of (by omega)]
  have e2 : (lo : Int).fdiv (2 ^ (min (IntKind.u64.wrap (64 - (s : Int))).toNat 64)) = ((lo / 2 ^ (64 - s) : Nat) : Int) := by
    rw [e1, Int.toNat_natCast, Nat.min_eq_left (by omega), Int.fdiv_eq_ediv_of_nonneg _ (by
      have : (0 : Int) < 2 ^ (64 - s) := Int.pow_pos (by decide)
      omega), Int.natCast_ediv, Int.natCast_pow]
    rfl
  rw [e2]
  have hlt : lo / 2 ^ (64 - s) < 2 ^ s := by
    rw [Nat.div_lt_iff_lt_mul (Nat.two_pow_pos _), ← Nat.pow_add]
    have : s + (64 - s) = 64 := by omega
    rw [this]
    exact h2
  have hlt2 : lo / 2 ^ (64 - s) < 18446744073709551616 := Nat.lt_of_le_of_lt (Nat.div_le_self _ _) h2
  rw [bits_or_u64_nat _ _ h1 hlt2]
  have := Nat.shiftLeft_add_eq_or_of_lt hlt hi
  rw [Nat.shiftLeft_eq] at this
  rw [this]

/-- The quotient and the rest. -/
theorem div64_pure {hi lo y : Nat} (h1 : hi < y) (h2 : lo < 18446744073709551616) (h3 : y < 18446744073709551616) :
    Pure Tryz.prog J0 249 [.int .u64 hi, .int .u64 lo, .int .u64 y] (.tuple ⟨[.int .u64 (((hi * 18446744073709551616 + lo) / y : Nat) : Int), .int .u64 (((hi * 18446744073709551616 + lo) % y : Nat) : Int)]⟩) := by
  have hy0 : 0 < y := by omega
  have d1 : ((y : Int) == Int.ofNat 0) = false := by simp; omega
  have d2 : decide ((y : Int) ≤ (hi : Int)) = false := by simp; omega
  by_cases hh : hi = 0
  · subst hh
    have := pure_of bW3_ok 10 [] _ (div_way0 ((0 : Nat) : Int) lo y) ⟨by omega, by omega, rfl, d2, d1, trivial⟩
    have e1 : IntKind.u64.wrap ((lo : Int).tdiv (y : Int)) = ((lo / y : Nat) : Int) := by
      have : (lo : Int).tdiv (y : Int) = ((lo / y : Nat) : Int) := (Int.ofNat_tdiv lo y).symm
      rw [this, u64_of (Nat.lt_of_le_of_lt (Nat.div_le_self _ _) h2)]
    have e2 : (lo : Int).tmod (y : Int) = ((lo % y : Nat) : Int) := (Int.ofNat_tmod lo y).symm
    rw [e1, e2] at this
    have e3 : 0 * 18446744073709551616 + lo = lo := by omega
    rw [e3]
    exact this
  · have hd0 : ((hi : Int) == Int.ofNat 0) = false := by simp; omega
    have hbl := bl_le.2 (show y < 2 ^ 64 from h3)
    have hbp := bl_pos.2 hy0
    obtain ⟨s, hs⟩ : ∃ s, s = 64 - bl y := ⟨_, rfl⟩
    have hs64 : s ≤ 64 := by omega
    have hsV : dS y = (s : Int) := by
      unfold dS len64
      rw [Int.toNat_natCast]
      have e : (64 : Int) - ((bl y : Nat) : Int) = (s : Int) := by omega
      rw [e, wrap_nat (by omega), u64_of (by omega)]
    have hp : 2 ^ 64 = (18446744073709551616 : Nat) := by decide
    have hYlt : y * 2 ^ s < 18446744073709551616 := by
      have := lt_bl y
      have : y * 2 ^ s < 2 ^ bl y * 2 ^ s := Nat.mul_lt_mul_of_pos_right this (Nat.two_pow_pos s)
      rw [← Nat.pow_add, show bl y + s = 64 by omega, hp] at this
      exact this
    have hYge : 9223372036854775808 ≤ y * 2 ^ s := by
      have := bl_top hy0
      have : 2 ^ (bl y - 1) * 2 ^ s ≤ y * 2 ^ s := Nat.mul_le_mul_right _ this
      rw [← Nat.pow_add, show bl y - 1 + s = 63 by omega] at this
      exact this
    have hyV : dSh y s = ((y * 2 ^ s : Nat) : Int) := by rw [dSh_nat hs64, Nat.mod_eq_of_lt hYlt]
    have hhiS : hi * 2 ^ s + 2 ^ s ≤ y * 2 ^ s := by
      have : (hi + 1) * 2 ^ s ≤ y * 2 ^ s := Nat.mul_le_mul_right _ h1
      rw [Nat.add_mul, Nat.one_mul] at this
      exact this
    have hloS : lo / 2 ^ (64 - s) < 2 ^ s := by
      rw [Nat.div_lt_iff_lt_mul (Nat.two_pow_pos _), ← Nat.pow_add, show s + (64 - s) = 64 by omega]
      exact h2
    have hU : dU hi lo s = ((hi * 2 ^ s + lo / 2 ^ (64 - s) : Nat) : Int) := dU_nat hs64 (Nat.lt_of_le_of_lt (Nat.le_add_right _ _) (Nat.lt_of_le_of_lt hhiS hYlt)) h2
    have hL : dSh lo s = ((lo * 2 ^ s % 18446744073709551616 : Nat) : Int) := dSh_nat hs64
    -- the number, moved
    have hN : (hi * 18446744073709551616 + lo) * 2 ^ s = (hi * 2 ^ s + lo / 2 ^ (64 - s)) * 18446744073709551616 + lo * 2 ^ s % 18446744073709551616 := by
      have e1 : lo * 2 ^ s / 18446744073709551616 = lo / 2 ^ (64 - s) := by
        have : (18446744073709551616 : Nat) = 2 ^ (64 - s) * 2 ^ s := by rw [← Nat.pow_add, show 64 - s + s = 64 by omega]
        rw [this, Nat.mul_div_mul_right _ _ (Nat.two_pow_pos s)]
      have := Nat.div_add_mod (lo * 2 ^ s) 18446744073709551616
      rw [e1] at this
      rw [Nat.add_mul, Nat.add_mul, Nat.mul_right_comm]
      omega
    generalize hYe : y * 2 ^ s = Y at *
    generalize hUe : hi * 2 ^ s + lo / 2 ^ (64 - s) = U at *
    generalize hLe : lo * 2 ^ s % 18446744073709551616 = L at *
    have hLlt : L < 18446744073709551616 := by rw [← hLe]; exact Nat.mod_lt _ (by decide)
    have hUY : U < Y := by omega
    have hY1 : Y = Y / 4294967296 * 4294967296 + Y % 4294967296 := by omega
    -- the first digit
    have L1 := knuth (X := XW3) (c := cDiv1) (x := .exit 0) (by intro e; cases e) (fun q r => TD1 Y s (Y / 4294967296 : Nat) (Y % 4294967296 : Nat) U L (L / 4294967296 : Nat) (L % 4294967296 : Nat) q r) (fun q => TE1 Y s (Y / 4294967296 : Nat) (Y % 4294967296 : Nat) U L (L / 4294967296 : Nat) (L % 4294967296 : Nat) q)
      (Y := Y) (y1 := Y / 4294967296) (y0 := Y % 4294967296) (U := U) (u := L / 4294967296) hY1 (by omega) (by omega) (by omega) hUY (by omega) (fun q r => d1_break _ _ _ _ _ _ _ _ q r) (fun q r => d1_next _ _ _ _ _ _ _ _ q r) (fun q r => d1_out _ _ _ _ _ _ _ _ q r)
    have hq1 : (U * 4294967296 + L / 4294967296) / Y * Y + (U * 4294967296 + L / 4294967296) % Y = U * 4294967296 + L / 4294967296 := by
      have := Nat.div_add_mod (U * 4294967296 + L / 4294967296) Y
      rw [Nat.mul_comm] at this
      exact this
    have hR1 : (U * 4294967296 + L / 4294967296) % Y < Y := Nat.mod_lt _ (by omega)
    have hT1 : (U * 4294967296 + L / 4294967296) / Y < 4294967296 := by
      rw [Nat.div_lt_iff_lt_mul (by omega)]
      have : (U + 1) * 4294967296 ≤ Y * 4294967296 := Nat.mul_le_mul_right _ hUY
      omega
    obtain ⟨q1, hq1e⟩ : ∃ q1, q1 = (U * 4294967296 + L / 4294967296) / Y := ⟨_, rfl⟩
    obtain ⟨R1, hR1e⟩ : ∃ R1, R1 = (U * 4294967296 + L / 4294967296) % Y := ⟨_, rfl⟩
    rw [← hq1e] at L1 hq1 hT1
    rw [← hR1e] at hq1 hR1
    -- the second digit
    have L2 := knuth (X := XW3) (c := cDiv2) (x := .exit 2) (by intro e; cases e) (fun q r => TD2 Y s (Y / 4294967296 : Nat) (Y % 4294967296 : Nat) (L % 4294967296 : Nat) q1 R1 q r) (fun q => TE2 Y s (Y / 4294967296 : Nat) (Y % 4294967296 : Nat) (L % 4294967296 : Nat) q1 R1 q)
      (Y := Y) (y1 := Y / 4294967296) (y0 := Y % 4294967296) (U := R1) (u := L % 4294967296) hY1 (by omega) (by omega) (by omega) hR1 (by omega) (fun q r => d2_break _ _ _ _ _ q r _ _) (fun q r => d2_next _ _ _ _ _ q r _ _) (fun q r => d2_out _ _ _ _ _ q r _ _)
    have hq0 : (R1 * 4294967296 + L % 4294967296) / Y * Y + (R1 * 4294967296 + L % 4294967296) % Y = R1 * 4294967296 + L % 4294967296 := by
      have := Nat.div_add_mod (R1 * 4294967296 + L % 4294967296) Y
      rw [Nat.mul_comm] at this
      exact this
    have hR0 : (R1 * 4294967296 + L % 4294967296) % Y < Y := Nat.mod_lt _ (by omega)
    have hT0 : (R1 * 4294967296 + L % 4294967296) / Y < 4294967296 := by
      rw [Nat.div_lt_iff_lt_mul (by omega)]
      have : (R1 + 1) * 4294967296 ≤ Y * 4294967296 := Nat.mul_le_mul_right _ hR1
      omega
    obtain ⟨q0, hq0e⟩ : ∃ q0, q0 = (R1 * 4294967296 + L % 4294967296) / Y := ⟨_, rfl⟩
    obtain ⟨R0, hR0e⟩ : ∃ R0, R0 = (R1 * 4294967296 + L % 4294967296) % Y := ⟨_, rfl⟩
    rw [← hq0e] at L2 hq0 hT0
    rw [← hR0e] at hq0 hR0
    -- both together
    have hall : (hi * 18446744073709551616 + lo) * 2 ^ s = (q1 * 4294967296 + q0) * Y + R0 := by
      rw [hN, Nat.add_mul, Nat.mul_right_comm]
      omega
    have hres : (hi * 18446744073709551616 + lo) / y = q1 * 4294967296 + q0 ∧ R0 = (hi * 18446744073709551616 + lo) % y * 2 ^ s := by
      have e1 : (hi * 18446744073709551616 + lo) * 2 ^ s / (y * 2 ^ s) = (hi * 18446744073709551616 + lo) / y := Nat.mul_div_mul_right _ _ (Nat.two_pow_pos s)
      have e2 : (hi * 18446744073709551616 + lo) * 2 ^ s % (y * 2 ^ s) = (hi * 18446744073709551616 + lo) % y * 2 ^ s := Nat.mul_mod_mul_right _ _ _
      have hall' : (hi * 18446744073709551616 + lo) * 2 ^ s = Y * (q1 * 4294967296 + q0) + R0 := by rw [hall, Nat.mul_comm Y]
      have hY0 : 0 < Y := by omega
      rw [hYe, hall'] at e1 e2
      rw [Nat.mul_add_div hY0, Nat.div_eq_of_lt hR0, Nat.add_zero] at e1
      rw [Nat.mul_add_mod, Nat.mod_eq_of_lt hR0] at e2
      exact ⟨e1.symm, e2⟩
    have hin1 := d1_into hi lo y (.exit 0) (TE1 Y s (Y / 4294967296 : Nat) (Y % 4294967296 : Nat) U L (L / 4294967296 : Nat) (L % 4294967296 : Nat) q1) (by
      rw [hsV, hyV, hU, hL, dHi_nat, dLo_nat hYlt, dHi_nat, dLo_nat hLlt, dQ_nat (by omega), dR_nat (by omega) (by omega) (by omega)]
      exact L1)
    have hdn : dN U (L / 4294967296 : Nat) q1 Y = (R1 : Int) := dN_nat hq1.symm (by omega)
    have hin2 := d2_into hi lo y Y s (Y / 4294967296 : Nat) (Y % 4294967296 : Nat) U L (L / 4294967296 : Nat) (L % 4294967296 : Nat) q1 (.exit 2) (TE2 Y s (Y / 4294967296 : Nat) (Y % 4294967296 : Nat) (L % 4294967296 : Nat) q1 R1 q0) (by
      rw [hdn, dQ_nat (by omega), dR_nat (by omega) (by omega) (by omega)]
      exact L2)
    have hyn1 : (IntKind.u64.wrap ((y : Int) * 2 ^ min (IntKind.u64.wrap (IntKind.i64.wrap (64 - len64 y))).toNat IntKind.u64.bits)).fdiv (2 ^ min (Int.toNat 32) IntKind.u64.bits) = ((Y / 4294967296 : Nat) : Int) := by
      have : dHi (dSh y (dS y)) = ((Y / 4294967296 : Nat) : Int) := by rw [hsV, hyV, dHi_nat]
      exact this
    have hsx : Int.ofNat 0 ≤ IntKind.u64.wrap (IntKind.i64.wrap (Int.ofNat 64 - len64 y)) := by
      have : dS y = (s : Int) := hsV
      show (0 : Int) ≤ dS y
      omega
    have hsx2 : Int.ofNat 0 ≤ IntKind.u64.wrap (Int.ofNat 64 - IntKind.u64.wrap (IntKind.i64.wrap (Int.ofNat 64 - len64 y))) := by
      show (0 : Int) ≤ IntKind.u64.wrap (64 - dS y)
      rw [hsV]
      have := IntKind.wrap_u64 (64 - (s : Int))
      omega
    have := pure_of bW3_ok 10 _ _ (div_way hi lo y Y s (Y / 4294967296 : Nat) (Y % 4294967296 : Nat) U L (L / 4294967296 : Nat) (L % 4294967296 : Nat) q1 R1 q0) ⟨by simp, hin2, by omega, hin1, by rw [hyn1]; omega, hsx, hsx2, hsx, hsx, ⟨by simp, by simp only [Int.ofNat_eq_natCast]; omega⟩, hd0, d2, d1, trivial⟩
    have f1 : IntKind.u64.wrap (IntKind.u64.wrap ((q1 : Int) * Int.ofNat 4294967296) + (q0 : Int)) = (((hi * 18446744073709551616 + lo) / y : Nat) : Int) := by
      rw [hres.1]
      simp only [IntKind.wrap_u64, Int.ofNat_eq_natCast]
      omega
    have f2 : (IntKind.u64.wrap (IntKind.u64.wrap (IntKind.u64.wrap ((R1 : Int) * Int.ofNat 4294967296) + ((L % 4294967296 : Nat) : Int)) - IntKind.u64.wrap ((q0 : Int) * (Y : Int)))).fdiv (Int.ofNat (2 ^ min (s : Int).toNat 64)) = (((hi * 18446744073709551616 + lo) % y : Nat) : Int) := by
      have e : dN R1 (L % 4294967296 : Nat) q0 Y = (R0 : Int) := dN_nat hq0.symm (by omega)
      have e' : IntKind.u64.wrap (IntKind.u64.wrap (IntKind.u64.wrap ((R1 : Int) * Int.ofNat 4294967296) + ((L % 4294967296 : Nat) : Int)) - IntKind.u64.wrap ((q0 : Int) * (Y : Int))) = (R0 : Int) := e
      rw [e', Int.toNat_natCast, Nat.min_eq_left hs64, Int.fdiv_eq_ediv_of_nonneg (R0 : Int) (show (0 : Int) ≤ Int.ofNat (2 ^ s) from Int.natCast_nonneg _), hres.2]
      have := Nat.mul_div_cancel ((hi * 18446744073709551616 + lo) % y) (Nat.two_pow_pos s)
      show (((hi * 18446744073709551616 + lo) % y * 2 ^ s : Nat) : Int) / ((2 ^ s : Nat) : Int) = _
      rw [← Int.natCast_ediv, this]
    rw [f1, f2] at this
    exact this

def divQ (hi lo y : Int) : Int := (((hi.toNat * 18446744073709551616 + lo.toNat) / y.toNat : Nat) : Int)
def divR (hi lo y : Int) : Int := (((hi.toNat * 18446744073709551616 + lo.toNat) % y.toNat : Nat) : Int)
def specDiv64 : List Value → Option (Value × List Prop)
  | [.int .u64 hi, .int .u64 lo, .int .u64 y] => some (.tuple ⟨[.int .u64 (divQ hi lo y), .int .u64 (divR hi lo y)]⟩, [(0 ≤ hi ∧ hi < y) ∧ (0 ≤ lo ∧ lo < 18446744073709551616) ∧ y < 18446744073709551616])
  | _ => none
theorem specDiv64_ok (args : List Value) (v : Value) (l : List Prop) (h : specDiv64 args = some (v, l)) (hl : allP l) : Pure Tryz.prog J0 249 args v := by
  unfold specDiv64 at h
  split at h
  case h_2 => cases h
  rename_i hi lo y
  cases h
  obtain ⟨⟨h1, h2⟩, ⟨h3, h4⟩, h5⟩ := hl.1
  have := div64_pure (hi := hi.toNat) (lo := lo.toNat) (y := y.toNat) (by omega) (by omega) (by omega)
  rw [Int.toNat_of_nonneg h1, Int.toNat_of_nonneg h3, Int.toNat_of_nonneg (by omega : 0 ≤ y)] at this
  exact this

noncomputable def tabW4 : Tab := tabAdd 249 specDiv64 tabW3
theorem tabW4_ok : PcOk Tryz.prog J0 tabW4 := tabAdd_ok specDiv64_ok tabW3_ok
noncomputable def bW4 : Base := ⟨Tryz.prog, J0, false, tabW4, mtabW1, 200, xtN0⟩
theorem bW4_ok : BaseOk bW4 := ⟨progOk, tabW4_ok, mtabW1_ok, xtN0_ok⟩
noncomputable abbrev XW4 : Cx := bW4.cx 10

end Go.Proofs.YtaopinmjgjpiiaaGreatDoor
