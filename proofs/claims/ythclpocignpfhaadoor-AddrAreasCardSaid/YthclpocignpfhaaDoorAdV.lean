/-
  Layer 10 (addr): contracts with Parse told.
-/
import Derived.Test.YthclpocignpfhaaDoorAdU
namespace Go.Proofs.YthclpocignpfhaaDoor
open Go Go.RowKit Ev AdS

def specParse : List Value → Option (Value × List Prop)
  | [.string ⟨⟨s⟩⟩] => some (.tuple ⟨[.agg ⟨[.int .i64 (parseS s).c, .int .i64 (parseS s).r, .bool (parseS s).p, .bool (parseS s).q]⟩, .int .i64 (parseS s).e]⟩, [])
  | _ => none
theorem specParse_ok (args : List Value) (v : Value) (l : List Prop) (h : specParse args = some (v, l)) (_ : allP l) : Pure Tryd.prog J0 9 args v := by
  unfold specParse at h
  split at h
  · cases h; exact parse_pure _
  · cases h
def specRParse : List Value → Option (Value × List Prop)
  | [.string ⟨⟨s⟩⟩] => some (.tuple ⟨[.agg ⟨[.int .i64 (parseS s).c, .int .i64 (parseS s).r, .bool (parseS s).p, .bool (parseS s).q]⟩, .int .i64 (parseS s).e]⟩, [s.length ≤ 9223372036854775807])
  | _ => none
theorem specRParse_ok (args : List Value) (v : Value) (l : List Prop) (h : specRParse args = some (v, l)) (hl : allP l) : Pure Tryd.prog J0 10 args v := by
  unfold specRParse at h
  split at h
  · cases h; exact rparse_pure _ hl.1
  · cases h

noncomputable def tabP : Tab := tabAdd 9 specParse (tabAdd 10 specRParse tabB3)
theorem tabP_ok : PcOk Tryd.prog J0 tabP := tabAdd_ok specParse_ok (tabAdd_ok specRParse_ok tabB3_ok)
noncomputable def bP : Base := ⟨Tryd.prog, J0, false, tabP, mtab0, 200⟩
theorem bP_ok : BaseOk bP := ⟨progOk, tabP_ok, mtab0_ok _ _⟩
noncomputable abbrev XP : Cx := bP.cx 10

end Go.Proofs.YthclpocignpfhaaDoor
