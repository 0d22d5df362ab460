/-
  math/bits: how many bits a word has.
-/
import Derived.Test.YtaopinmjgjpiiaaGreatDoorWiN
import Derived.Test.YtaopinmjgjpiiaaGreatDoorWdB
namespace Go.Proofs.YtaopinmjgjpiiaaGreatDoor
open Go Go.RowKit Ev Wd

/-- The table of bytes. -/
def l8 : ByteArray := ⟨⟨(List.range 256).map fun i => UInt8.ofNat (bl i)⟩⟩
theorem l8_at (i : Nat) (h : i < 256) : bytesAt l8 i = bl i := by
  have : ∀ i : Fin 256, bytesAt l8 i.val = bl i.val := by decide +kernel
  exact this ⟨i, h⟩

def lenV (k : Nat) (y : Int) : Value := .int .i64 (IntKind.i64.wrap ((k : Int) + IntKind.i64.wrap ((bytesAt l8 (IntKind.u8.wrap y).toNat : Nat) : Int)))
abbrev f32 (x : Int) : Int := x.fdiv 4294967296
abbrev f16 (x : Int) : Int := x.fdiv 65536
abbrev f8 (x : Int) : Int := x.fdiv 256
def lenO (y : Int) : Prop := 0 ≤ IntKind.u8.wrap y ∧ (IntKind.u8.wrap y).toNat < 256

section
variable (x : Int)
set_option maxRecDepth 100000
theorem len_ttt : pureCall XW2 [] 200 213 [.int .u64 x] [true, true, true] = some (lenV 56 (f8 (f16 (f32 x))), [lenO (f8 (f16 (f32 x))), decide (f16 (f32 x) ≥ 256) = true, decide (f32 x ≥ 65536) = true, decide (x ≥ 4294967296) = true]) := by kernel_rfl
theorem len_ttf : pureCall XW2 [] 200 213 [.int .u64 x] [true, true, false] = some (lenV 48 (f16 (f32 x)), [lenO (f16 (f32 x)), decide (f16 (f32 x) ≥ 256) = false, decide (f32 x ≥ 65536) = true, decide (x ≥ 4294967296) = true]) := by kernel_rfl
theorem len_tft : pureCall XW2 [] 200 213 [.int .u64 x] [true, false, true] = some (lenV 40 (f8 (f32 x)), [lenO (f8 (f32 x)), decide (f32 x ≥ 256) = true, decide (f32 x ≥ 65536) = false, decide (x ≥ 4294967296) = true]) := by kernel_rfl
theorem len_tff : pureCall XW2 [] 200 213 [.int .u64 x] [true, false, false] = some (lenV 32 (f32 x), [lenO (f32 x), decide (f32 x ≥ 256) = false, decide (f32 x ≥ 65536) = false, decide (x ≥ 4294967296) = true]) := by kernel_rfl
theorem len_ftt : pureCall XW2 [] 200 213 [.int .u64 x] [false, true, true] = some (lenV 24 (f8 (f16 x)), [lenO (f8 (f16 x)), decide (f16 x ≥ 256) = true, decide (x ≥ 65536) = true, decide (x ≥ 4294967296) = false]) := by kernel_rfl
theorem len_ftf : pureCall XW2 [] 200 213 [.int .u64 x] [false, true, false] = some (lenV 16 (f16 x), [lenO (f16 x), decide (f16 x ≥ 256) = false, decide (x ≥ 65536) = true, decide (x ≥ 4294967296) = false]) := by kernel_rfl
theorem len_fft : pureCall XW2 [] 200 213 [.int .u64 x] [false, false, true] = some (lenV 8 (f8 x), [lenO (f8 x), decide (x ≥ 256) = true, decide (x ≥ 65536) = false, decide (x ≥ 4294967296) = false]) := by kernel_rfl
theorem len_fff : pureCall XW2 [] 200 213 [.int .u64 x] [false, false, false] = some (lenV 0 x, [lenO x, decide (x ≥ 256) = false, decide (x ≥ 65536) = false, decide (x ≥ 4294967296) = false]) := by kernel_rfl
end

theorem lenV_eq {k n m : Nat} (hn : n < 256) (h : k + bl n = m) (hm : m ≤ 64) : lenV k n = .int .i64 m := by
  unfold lenV
  have e : IntKind.u8.wrap (n : Int) = n := by
    have := IntKind.wrap_u8 (n : Int)
    omega
  rw [e, Int.toNat_natCast, l8_at n hn, wrap_nat (by omega)]
  have := wrap_nat (n := k + bl n) (by omega)
  congr 1
  rw [← h]
  simpa using this
theorem lenO_of {n : Nat} (hn : n < 256) : lenO n := by
  unfold lenO
  have e : IntKind.u8.wrap (n : Int) = n := by
    have := IntKind.wrap_u8 (n : Int)
    omega
  rw [e]
  omega

theorem len64_pure (n : Nat) (h : n < W64) : Pure Tryz.prog J0 213 [.int .u64 n] (.int .i64 (bl n)) := by
  have h : n < 18446744073709551616 := h
  have e32 : f32 n = ((n / 4294967296 : Nat) : Int) := by unfold f32; rw [Int.fdiv_eq_ediv_of_nonneg _ (by omega)]; omega
  have e16 : ∀ m : Nat, f16 m = ((m / 65536 : Nat) : Int) := fun m => by unfold f16; rw [Int.fdiv_eq_ediv_of_nonneg _ (by omega)]; omega
  have e8 : ∀ m : Nat, f8 m = ((m / 256 : Nat) : Int) := fun m => by unfold f8; rw [Int.fdiv_eq_ediv_of_nonneg _ (by omega)]; omega
  have s32 : 4294967296 ≤ n → bl n = 32 + bl (n / 4294967296) := fun h => bl_shift (k := 32) h
  have s16 : ∀ m, 65536 ≤ m → bl m = 16 + bl (m / 65536) := fun m h => bl_shift (k := 16) h
  have s8 : ∀ m, 256 ≤ m → bl m = 8 + bl (m / 256) := fun m h => bl_shift (k := 8) h
  have hb : bl n ≤ 64 := bl_le.2 h
  by_cases h1 : 4294967296 ≤ n
  · have q1 := s32 h1
    by_cases h2 : 65536 ≤ n / 4294967296
    · have q2 := s16 _ h2
      by_cases h3 : 256 ≤ n / 4294967296 / 65536
      · have q3 := s8 _ h3
        have := len_ttt n
        rw [e32, e16, e8] at this
        rw [lenV_eq (k := 56) (m := bl n) (by omega) (by omega) hb] at this
        exact pure_of bW2_ok 10 [] _ this ⟨lenO_of (by omega), by simp; omega, by simp; omega, by simp; omega, trivial⟩
      · have := len_ttf n
        rw [e32, e16] at this
        rw [lenV_eq (k := 48) (m := bl n) (by omega) (by omega) hb] at this
        exact pure_of bW2_ok 10 [] _ this ⟨lenO_of (by omega), by simp; omega, by simp; omega, by simp; omega, trivial⟩
    · by_cases h3 : 256 ≤ n / 4294967296
      · have q3 := s8 _ h3
        have := len_tft n
        rw [e32, e8] at this
        rw [lenV_eq (k := 40) (m := bl n) (by omega) (by omega) hb] at this
        exact pure_of bW2_ok 10 [] _ this ⟨lenO_of (by omega), by simp; omega, by simp; omega, by simp; omega, trivial⟩
      · have := len_tff n
        rw [e32] at this
        rw [lenV_eq (k := 32) (m := bl n) (by omega) (by omega) hb] at this
        exact pure_of bW2_ok 10 [] _ this ⟨lenO_of (by omega), by simp; omega, by simp; omega, by simp; omega, trivial⟩
  · by_cases h2 : 65536 ≤ n
    · have q2 := s16 _ h2
      by_cases h3 : 256 ≤ n / 65536
      · have q3 := s8 _ h3
        have := len_ftt n
        rw [e16, e8] at this
        rw [lenV_eq (k := 24) (m := bl n) (by omega) (by omega) hb] at this
        exact pure_of bW2_ok 10 [] _ this ⟨lenO_of (by omega), by simp; omega, by simp; omega, by simp; omega, trivial⟩
      · have := len_ftf n
        rw [e16] at this
        rw [lenV_eq (k := 16) (m := bl n) (by omega) (by omega) hb] at this
        exact pure_of bW2_ok 10 [] _ this ⟨lenO_of (by omega), by simp; omega, by simp; omega, by simp; omega, trivial⟩
    · by_cases h3 : 256 ≤ n
      · have q3 := s8 _ h3
        have := len_fft n
        rw [e8] at this
        rw [lenV_eq (k := 8) (m := bl n) (by omega) (by omega) hb] at this
        exact pure_of bW2_ok 10 [] _ this ⟨lenO_of (by omega), by simp; omega, by simp; omega, by simp; omega, trivial⟩
      · have := len_fff n
        rw [show lenV 0 n = .int .i64 (bl n) from lenV_eq (k := 0) (m := bl n) (by omega) (by omega) hb] at this
        exact pure_of bW2_ok 10 [] _ this ⟨lenO_of (by omega), by simp; omega, by simp; omega, by simp; omega, trivial⟩

def len64 (x : Int) : Int := ((bl x.toNat : Nat) : Int)
def specLen64 : List Value → Option (Value × List Prop)
  | [.int .u64 x] => some (.int .i64 (len64 x), [0 ≤ x ∧ x < 18446744073709551616])
  | _ => none
theorem specLen64_ok (args : List Value) (v : Value) (l : List Prop) (h : specLen64 args = some (v, l)) (hl : allP l) : Pure Tryz.prog J0 213 args v := by
  unfold specLen64 at h
  split at h
  case h_2 => cases h
  rename_i x
  cases h
  obtain ⟨h1, h2⟩ := hl.1
  have := len64_pure x.toNat (by show x.toNat < 18446744073709551616; omega)
  rw [Int.toNat_of_nonneg h1] at this
  exact this

noncomputable def tabW3 : Tab := tabAdd 213 specLen64 tabW2
theorem tabW3_ok : PcOk Tryz.prog J0 tabW3 := tabAdd_ok specLen64_ok tabW2_ok

noncomputable def bW3 : Base := ⟨Tryz.prog, J0, false, tabW3, mtabW1, 200, xtN0⟩
theorem bW3_ok : BaseOk bW3 := ⟨progOk, tabW3_ok, mtabW1_ok, xtN0_ok⟩
noncomputable abbrev XW3 : Cx := bW3.cx 10

end Go.Proofs.YtaopinmjgjpiiaaGreatDoor
