/-
  Layer 10 (addr): areas read: the first mark of a text.
-/
import Derived.Test.YthclpocignpfhaaDoorAdY
namespace Go.Proofs.YthclpocignpfhaaDoor
open Go Go.RowKit Ev AdS

theorem index0 : Lib.indexByte [58] 58 = 0 := by decide

/-- internal/stringslite.Index at one byte. -/
theorem index_pure (s : List UInt8) : Pure Tryd.prog J0 58 [.string ⟨⟨s⟩⟩, .string ⟨⟨[58]⟩⟩] (vi (Lib.indexByte s 58)) := by
  cases h : (([58] : List UInt8) == s)
  · exact pure_of bP_ok 10 [] [false, true] (l := [(0 : Int) ≤ 0 ∧ (0 : Nat) < 1, true = true, (([58] : List UInt8) == s) = false]) (by kernel_rfl) ⟨⟨by decide, by decide⟩, rfl, h, trivial⟩
  · have e : s = [58] := by
      have := eq_of_beq h
      exact this.symm
    subst e
    rw [index0]
    exact pure_of bP_ok 10 [] [true] (l := [(([58] : List UInt8) == [58]) = true]) (by kernel_rfl) ⟨h, trivial⟩

def specIndex : List Value → Option (Value × List Prop)
  | [.string ⟨⟨s⟩⟩, .string ⟨⟨t⟩⟩] => some (.int .i64 (Lib.indexByte s 58), [t = [58]])
  | _ => none
theorem specIndex_ok (args : List Value) (v : Value) (l : List Prop) (h : specIndex args = some (v, l)) (hl : allP l) : Pure Tryd.prog J0 58 args v := by
  unfold specIndex at h
  split at h
  · cases h
    have e := hl.1
    subst e
    exact index_pure _
  · cases h

noncomputable def tabZ1 : Tab := tabAdd 58 specIndex tabY2
theorem tabZ1_ok : PcOk Tryd.prog J0 tabZ1 := tabAdd_ok specIndex_ok tabY2_ok
noncomputable def bZ1 : Base := ⟨Tryd.prog, J0, false, tabZ1, mtab0, 200⟩
theorem bZ1_ok : BaseOk bZ1 := ⟨progOk, tabZ1_ok, mtab0_ok _ _⟩

theorem sindex_pure (s : List UInt8) : Pure Tryd.prog J0 55 [.string ⟨⟨s⟩⟩, .string ⟨⟨[58]⟩⟩] (vi (Lib.indexByte s 58)) :=
  pure_of bZ1_ok 10 [] [] (l := [([58] : List UInt8) = [58]]) (by kernel_rfl) ⟨rfl, trivial⟩
theorem specSIndex_ok (args : List Value) (v : Value) (l : List Prop) (h : specIndex args = some (v, l)) (hl : allP l) : Pure Tryd.prog J0 55 args v := by
  unfold specIndex at h
  split at h
  · cases h
    have e := hl.1
    subst e
    exact sindex_pure _
  · cases h

noncomputable def tabZ2 : Tab := tabAdd 55 specIndex tabZ1
theorem tabZ2_ok : PcOk Tryd.prog J0 tabZ2 := tabAdd_ok specSIndex_ok tabZ1_ok
noncomputable def bZ2 : Base := ⟨Tryd.prog, J0, false, tabZ2, mtab0, 200⟩
theorem bZ2_ok : BaseOk bZ2 := ⟨progOk, tabZ2_ok, mtab0_ok _ _⟩
noncomputable abbrev XZ : Cx := bZ2.cx 10

end Go.Proofs.YthclpocignpfhaaDoor
