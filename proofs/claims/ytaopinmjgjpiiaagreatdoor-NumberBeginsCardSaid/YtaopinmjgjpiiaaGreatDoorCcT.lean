/-
  Multiplication, division, length of words by contracts, for closed runs.
-/
import Derived.Test.YtaopinmjgjpiiaaGreatDoorNuB
import Derived.Test.YtaopinmjgjpiiaaGreatDoorWiQ
namespace Go.Proofs.YtaopinmjgjpiiaaGreatDoor
open Go Go.RowKit Ev Wd

def inW (x : Int) : Bool := match x with
  | .ofNat n => Nat.blt n 18446744073709551616
  | .negSucc _ => false

theorem inW_spec {x : Int} (h : inW x = true) : 0 ≤ x ∧ x < 18446744073709551616 := by
  unfold inW at h
  split at h
  · simp only [Nat.blt_eq] at h
    constructor <;> simp <;> omega
  · cases h

/-- The contract at literals. -/
def cMul64 : List Value → Option (Value × List Prop)
  | [.int .u64 x, .int .u64 y] => match inW x, inW y with
    | true, true => some (.tuple ⟨[.int .u64 (Int.ofNat (x.toNat * y.toNat / 18446744073709551616)), .int .u64 (Int.ofNat (x.toNat * y.toNat % 18446744073709551616))]⟩, [])
    | _, _ => none
  | _ => none
def cDiv64 : List Value → Option (Value × List Prop)
  | [.int .u64 hi, .int .u64 lo, .int .u64 y] => match inW hi, inW lo, inW y, Nat.blt hi.toNat y.toNat with
    | true, true, true, true => some (.tuple ⟨[.int .u64 (Int.ofNat ((hi.toNat * 18446744073709551616 + lo.toNat) / y.toNat)), .int .u64 (Int.ofNat ((hi.toNat * 18446744073709551616 + lo.toNat) % y.toNat))]⟩, [])
    | _, _, _, _ => none
  | _ => none

theorem cMul64_ok (args : List Value) (v : Value) (l : List Prop) (h : cMul64 args = some (v, l)) (_ : allP l) : Pure Tryz.prog J0 194 args v := by
  unfold cMul64 at h
  split at h
  case h_2 => cases h
  rename_i x y
  split at h
  case h_2 => cases h
  rename_i hx hy
  cases h
  have hx := inW_spec hx
  have hy := inW_spec hy
  have := specMul64_ok [.int .u64 x, .int .u64 y] _ _ rfl ⟨⟨hx, hy⟩, trivial⟩
  exact this

theorem cDiv64_ok (args : List Value) (v : Value) (l : List Prop) (h : cDiv64 args = some (v, l)) (_ : allP l) : Pure Tryz.prog J0 249 args v := by
  unfold cDiv64 at h
  split at h
  case h_2 => cases h
  rename_i hi lo y
  split at h
  case h_2 => cases h
  rename_i h1 h2 h3 h4
  cases h
  have h1 := inW_spec h1
  have h2 := inW_spec h2
  have h3 := inW_spec h3
  simp only [Nat.blt_eq] at h4
  have := specDiv64_ok [.int .u64 hi, .int .u64 lo, .int .u64 y] _ _ rfl ⟨⟨⟨h1.1, by omega⟩, h2, h3.2⟩, trivial⟩
  exact this

noncomputable def tabT1 : Tab := tabAdd 194 cMul64 (tabAdd 249 cDiv64 tabN1)
theorem tabT1_ok : PcOk Tryz.prog J0 tabT1 := tabAdd_ok cMul64_ok (tabAdd_ok cDiv64_ok tabN1_ok)
/-- For closed arguments. -/
noncomputable def bT1 : Base := ⟨Tryz.prog, J0, true, tabT1, mtab0, 2000, xtN0⟩
theorem bT1_ok : BaseOk bT1 := ⟨progOk, tabT1_ok, mtab0_ok _ _, xtN0_ok⟩

end Go.Proofs.YtaopinmjgjpiiaaGreatDoor
