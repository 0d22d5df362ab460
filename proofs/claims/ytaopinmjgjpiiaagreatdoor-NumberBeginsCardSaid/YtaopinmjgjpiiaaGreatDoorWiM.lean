/-
  math/bits: the product of two words by the library's contract; how many bits a word has; a quotient of two words by one.
-/
import Derived.Test.YtaopinmjgjpiiaaGreatDoorWiE
import Derived.Shelf.Bits.Mul64
namespace Go.Proofs

def Tryz.lays264_ren : Go.Shelf.Ren := ⟨fun | 264 => 194 | n => n, fun | 53 => 29 | 46 => 122 | n => n, fun | n => n⟩
theorem Tryz.lays264 : Go.Proofs.Lays.n264 Tryz.prog Tryz.lays264_ren where
  mixed := by kernel_rfl
  f264 := Tryz.func194.trans (congrArg some (by kernel_rfl))
  t46 := Tryz.underlying122
  a46 := Tryz.isAgg122
  z46 := Tryz.sizeOf122
  v46 := Tryz.zeroValue122
  t53 := Tryz.underlying29
  a53 := Tryz.isAgg29
  z53 := Tryz.sizeOf29
  v53 := Tryz.zeroValue29

namespace YtaopinmjgjpiiaaGreatDoor
open Go Go.RowKit Ev Wd

/-- The upper word, the lower one. -/
def mulHi (x y : Int) : Int := ((x.toNat * y.toNat / 18446744073709551616 : Nat) : Int)
def mulLo (x y : Int) : Int := ((x.toNat * y.toNat % 18446744073709551616 : Nat) : Int)
def specMul64 : List Value → Option (Value × List Prop)
  | [.int .u64 x, .int .u64 y] => some (.tuple ⟨[.int .u64 (mulHi x y), .int .u64 (mulLo x y)]⟩, [(0 ≤ x ∧ x < 18446744073709551616) ∧ 0 ≤ y ∧ y < 18446744073709551616])
  | _ => none
theorem specMul64_ok (args : List Value) (v : Value) (l : List Prop) (h : specMul64 args = some (v, l)) (hl : allP l) : Pure Tryz.prog J0 194 args v := by
  unfold specMul64 at h
  split at h
  case h_2 => cases h
  rename_i x y
  cases h
  obtain ⟨⟨h1, h2⟩, h3, h4⟩ := hl.1
  refine ⟨rfl, rfl, .inl ⟨enters_of Tryz.func194 (by kernel_rfl) (c := _) rfl, fun w hI => ?_⟩⟩
  have := Any.bits_Mul64 Tryz.lays264 x.toNat y.toNat (by omega) (by omega) w
  rw [Int.toNat_of_nonneg h1, Int.toNat_of_nonneg h3] at this
  exact this.mono fun e w' ⟨q1, q2⟩ => ⟨q1, q2 ▸ Below.refl _ _⟩

def specLow : List Arg → Option (List Arg × List Prop)
  | [.a [.v (.bool _), .s 29 .u64 xs]] => some ([uR ((val W64 xs % W64 : Nat) : Int)], [xs = ws W64 (val W64 xs)])
  | _ => none
theorem specLow_ok : ∀ az rs l, specLow az = some (rs, l) → allP l → Ev.Sem Tryz.prog J0 166 az rs := by
  intro az rs l h hl
  unfold specLow at h
  split at h
  · rename_i a xs
    cases h
    have h1 : xs = ws W64 (val W64 xs) := hl.1
    have := low_sem a (val W64 xs)
    unfold iN at this
    rw [← h1] at this
    exact this
  · cases h

noncomputable def tabW2 : Tab := tabAdd 194 specMul64 tabW0
theorem tabW2_ok : PcOk Tryz.prog J0 tabW2 := tabAdd_ok specMul64_ok tabW0_ok
noncomputable def bW2 : Base := ⟨Tryz.prog, J0, false, tabW2, mtabW1, 200, xtN0⟩
theorem bW2_ok : BaseOk bW2 := ⟨progOk, tabW2_ok, mtabW1_ok, xtN0_ok⟩
noncomputable abbrev XW2 : Cx := bW2.cx 10

end YtaopinmjgjpiiaaGreatDoor
end Go.Proofs
