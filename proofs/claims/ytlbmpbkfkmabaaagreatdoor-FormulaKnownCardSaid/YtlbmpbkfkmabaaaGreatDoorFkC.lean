/-
  FormulaKnown as a contract: of any text it answers true.
-/
import Derived.Test.YtlbmpbkfkmabaaaGreatDoorFkA
import Derived.Test.YtlbmpbkfkmabaaaGreatDoorFkB1
import Derived.Test.YtlbmpbkfkmabaaaGreatDoorFkB2
import Derived.Test.YtlbmpbkfkmabaaaGreatDoorFkB3
import Derived.Test.YtlbmpbkfkmabaaaGreatDoorFkB4
import Derived.Test.YtlbmpbkfkmabaaaGreatDoorFkB5
namespace Go.Proofs.YtlbmpbkfkmabaaaGreatDoor
open Go Go.RowKit Ev Fk

def obK (s : List UInt8) : List Prop := [(s == ([67, 72, 79, 79, 83, 69] : List UInt8)) = false, (false = false), Unk s, (false = false), Unk s, (false = false), Unk s, (false = false), Unk s, (false = false), Unk s, (s == ([78, 65] : List UInt8)) = false]
noncomputable def bFk3 : Base := ⟨Tryz.prog, J0, false, tabFk1, mtab0, 2000, xtN0⟩
theorem bFk3_ok : BaseOk bFk3 := ⟨progOk, tabFk1_ok, mtab0_ok _ _, xtN0_ok⟩
set_option maxRecDepth 100000 in
theorem refKnown_none (s : List UInt8) : pureCall (bFk3.cx 30) [] 2000 19 [.string ⟨⟨s⟩⟩] (List.replicate 7 false) = some (.tuple ⟨[.int .i64 0, .int .i64 0, .bool false]⟩, obK s) := by kernel_rfl
def specKn : List Value → Option (Value × List Prop)
  | [.string ⟨⟨s⟩⟩] => some (.tuple ⟨[.int .i64 0, .int .i64 0, .bool false]⟩, [Unk s])
  | _ => none
theorem specKn_ok (args : List Value) (v : Value) (l : List Prop) (h : specKn args = some (v, l)) (hl : allP l) : Ev.Pure Tryz.prog J0 19 args v := by
  unfold specKn at h
  split at h
  · cases h
    have hu : Unk _ := hl.1
    exact pure_of bFk3_ok 30 [] _ (refKnown_none _) ⟨hu _ (by simp [names, ws6]), rfl, hu, rfl, hu, rfl, hu, rfl, hu, rfl, hu, hu _ (by simp [names, ws0]), trivial⟩
  · cases h
noncomputable def tabFk2 : Tab := tabAdd 19 specKn tabFk1
theorem tabFk2_ok : PcOk Tryz.prog J0 tabFk2 := tabAdd_ok specKn_ok tabFk1_ok
noncomputable def bFk2 : Base := ⟨Tryz.prog, J0, true, tabFk2, mtab0, 2000, xtN0⟩
theorem bFk2_ok : BaseOk bFk2 := ⟨progOk, tabFk2_ok, mtab0_ok _ _, xtN0_ok⟩

set_option maxRecDepth 100000 in
theorem law_none (s : List UInt8) : pureCall (bFk2.cx 30) [] 2000 5 [.string ⟨⟨s⟩⟩] [] = some (.bool true, [Unk s, Unk s]) := by kernel_rfl

theorem names_all {s : List UInt8} (h : s ∈ names) : Ev.Pure Tryz.prog J0 5 [.string ⟨⟨s⟩⟩] (.bool true) := by
  simp only [names, ws0, ws1, ws2, ws3, ws4, ws5, ws6, List.cons_append, List.nil_append, List.mem_cons, List.not_mem_nil, or_false] at h
  rcases h with rfl | rfl | rfl | rfl | rfl | rfl | rfl | rfl | rfl | rfl | rfl | rfl | rfl | rfl | rfl | rfl | rfl | rfl | rfl | rfl | rfl | rfl | rfl | rfl | rfl | rfl | rfl | rfl | rfl | rfl | rfl | rfl | rfl | rfl | rfl | rfl | rfl | rfl | rfl | rfl | rfl | rfl | rfl | rfl | rfl | rfl | rfl | rfl | rfl | rfl | rfl | rfl
  · exact fk_NA
  · exact fk_ABS
  · exact fk_INT
  · exact fk_ISBLANK
  · exact fk_ISERROR
  · exact fk_ISNUMBER
  · exact fk_ISTEXT
  · exact fk_LEN
  · exact fk_NOT
  · exact fk_SIGN
  · exact fk_SINGLE
  · exact fk_SQRT
  · exact fk_TRUNC
  · exact fk_VALUE
  · exact fk_EXACT
  · exact fk_IFERROR
  · exact fk_LARGE
  · exact fk_LEFT
  · exact fk_MOD
  · exact fk_PERCENTILE
  · exact fk_POWER
  · exact fk_REPT
  · exact fk_RIGHT
  · exact fk_ROUND
  · exact fk_ROUNDDOWN
  · exact fk_ROUNDEVEN
  · exact fk_ROUNDUP
  · exact fk_SMALL
  · exact fk_SUMPRODUCT
  · exact fk_TEXT
  · exact fk_IF
  · exact fk_RANK
  · exact fk_COUNTIF
  · exact fk_FUSED
  · exact fk_MID
  · exact fk_AND
  · exact fk_AVERAGE
  · exact fk_COUNT
  · exact fk_COUNTA
  · exact fk_JOIN
  · exact fk_MAX
  · exact fk_MEDIAN
  · exact fk_MIN
  · exact fk_MODE
  · exact fk_OR
  · exact fk_STDEV
  · exact fk_STDEVP
  · exact fk_SUM
  · exact fk_SUMSQ
  · exact fk_VAR
  · exact fk_VARP
  · exact fk_CHOOSE
/-- Of any text the law answers true. -/
theorem formulaKnown_pure (s : List UInt8) (_ : s.length ≤ 140737488351232) : Ev.Pure Tryz.prog J0 5 [.string ⟨⟨s⟩⟩] (.bool true) := by
  by_cases hm : s ∈ names
  · exact names_all hm
  · have hu : Unk s := fun w hw => by
      rw [Bool.eq_false_iff]
      exact fun e => hm (by rw [eq_of_beq e]; exact hw)
    exact pure_of bFk2_ok 30 [] _ (law_none s) ⟨hu, hu, trivial⟩

end Go.Proofs.YtlbmpbkfkmabaaaGreatDoor
