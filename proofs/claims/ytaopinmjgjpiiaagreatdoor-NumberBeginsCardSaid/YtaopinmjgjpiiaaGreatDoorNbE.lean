/-
  number.mantissa and number.exponent in a table.
-/
import Derived.Test.YtaopinmjgjpiiaaGreatDoorNbD
namespace Go.Proofs.YtaopinmjgjpiiaaGreatDoor
open Go Go.RowKit Ev

def specMa : List Value → Option (Value × List Prop)
  | [.string ⟨⟨t⟩⟩, .int .i64 a, .int .i64 b] => some (.tuple ⟨[.string ⟨⟨maS t a.toNat b⟩⟩, .int .i64 (maB t a.toNat b), .int .i64 (maE t a.toNat b)]⟩, [t.length < 9223372036854775807 ∧ 0 ≤ a ∧ a.toNat ≤ t.length])
  | _ => none
theorem specMa_ok (args : List Value) (v : Value) (l : List Prop) (h : specMa args = some (v, l)) (hl : allP l) : Ev.Pure Tryz.prog J0 84 args v := by
  unfold specMa at h
  split at h
  · rename_i t a b
    cases h
    obtain ⟨h1, h2, h3⟩ := hl.1
    obtain ⟨q, rfl⟩ := Int.eq_ofNat_of_zero_le h2
    exact mantissa_pure h1 h3
  · cases h
def specEx : List Value → Option (Value × List Prop)
  | [.string ⟨⟨t⟩⟩, .int .i64 a, .string ⟨⟨L⟩⟩] => some (.tuple ⟨[.int .i64 (exV t L a.toNat), .int .i64 (exE t L a.toNat)]⟩, [t.length < 9223372036854775807 ∧ L.length < 4294967281 ∧ 0 ≤ a])
  | _ => none
theorem specEx_ok (args : List Value) (v : Value) (l : List Prop) (h : specEx args = some (v, l)) (hl : allP l) : Ev.Pure Tryz.prog J0 85 args v := by
  unfold specEx at h
  split at h
  · rename_i t a L
    cases h
    obtain ⟨h1, h2, h3⟩ := hl.1
    obtain ⟨q, rfl⟩ := Int.eq_ofNat_of_zero_le h3
    exact exponent_pure h1 h2
  · cases h
noncomputable def tabNb2 : Tab := tabAdd 84 specMa (tabAdd 85 specEx tabNb1)
theorem tabNb2_ok : PcOk Tryz.prog J0 tabNb2 := tabAdd_ok specMa_ok (tabAdd_ok specEx_ok tabNb1_ok)
noncomputable def bNb2 : Base := ⟨Tryz.prog, J0, false, tabNb2, mtab0, 2000, xtN0⟩
theorem bNb2_ok : BaseOk bNb2 := ⟨progOk, tabNb2_ok, mtab0_ok _ _, xtN0_ok⟩
noncomputable abbrev XNb2 := bNb2.cx 12

end Go.Proofs.YtaopinmjgjpiiaaGreatDoor
