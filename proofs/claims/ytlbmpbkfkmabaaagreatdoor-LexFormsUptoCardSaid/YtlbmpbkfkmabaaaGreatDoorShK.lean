/-
  show.Read as a contract in a table.
-/
import Derived.Test.YtlbmpbkfkmabaaaGreatDoorShJ
namespace Go.Proofs.YtlbmpbkfkmabaaaGreatDoor
open Go Go.RowKit Ev Sh

def rk (t : List UInt8) : Int := match readF t with | some f => f.k | none => 0
def rp (t : List UInt8) : Int := match readF t with | some f => f.p | none => 0
def rg (t : List UInt8) : Bool := match readF t with | some f => f.g | none => false
def rw' (t : List UInt8) : Int := match readF t with | some f => f.w | none => 0
def re (t : List UInt8) : Int := match readF t with | some _ => 0 | none => 3

theorem readV_eq (t : List UInt8) : readV t = .tuple ⟨[.agg ⟨[.int .i64 (rk t), .int .i64 (rp t), .bool (rg t), .int .i64 (rw' t)]⟩, .int .i64 (re t)]⟩ := by
  unfold readV rk rp rg rw' re
  cases readF t <;> rfl

def specReadF : List Value → Option (Value × List Prop)
  | [.string ⟨⟨t⟩⟩] => some (.tuple ⟨[.agg ⟨[.int .i64 (rk t), .int .i64 (rp t), .bool (rg t), .int .i64 (rw' t)]⟩, .int .i64 (re t)]⟩, [t.length ≤ 281474976710656])
  | _ => none

theorem specReadF_ok (args : List Value) (v : Value) (l : List Prop) (h : specReadF args = some (v, l)) (hl : allP l) : Ev.Pure Tryz.prog J0 9 args v := by
  unfold specReadF at h
  split at h
  · rename_i t
    cases h
    have := read_pure hl.1
    rw [readV_eq] at this
    exact this
  · cases h

/-- A call without arguments that answers true. -/
def specTrue : List Value → Option (Value × List Prop)
  | [] => some (.bool true, [])
  | _ => none

theorem specTrue_ok {f : FuncId} (h0 : Ev.Pure Tryz.prog J0 f [] (.bool true)) (args : List Value) (v : Value) (l : List Prop) (h : specTrue args = some (v, l)) (_ : allP l) : Ev.Pure Tryz.prog J0 f args v := by
  unfold specTrue at h
  split at h
  · cases h; exact h0
  · cases h

noncomputable def tabSh5 : Tab := tabAdd 11 specTrue (tabAdd 9 specReadF tabSh4)
theorem tabSh5_ok (hk : Ev.Pure Tryz.prog J0 11 [] (.bool true)) : PcOk Tryz.prog J0 tabSh5 := tabAdd_ok (specTrue_ok hk) (tabAdd_ok specReadF_ok tabSh4_ok)
noncomputable def bSh5 : Base := ⟨Tryz.prog, J0, false, tabSh5, mtabSh0, 2000, xtN0⟩
theorem bSh5_ok (hk : Ev.Pure Tryz.prog J0 11 [] (.bool true)) : BaseOk bSh5 := ⟨progOk, tabSh5_ok hk, mtabSh0_ok, xtN0_ok⟩

end Go.Proofs.YtlbmpbkfkmabaaaGreatDoor
