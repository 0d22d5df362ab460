/-
  Letters and bytes of names: the program's and the document's, as contracts.
-/
import Derived.Test.YtlbmpbkfkmabaaaGreatDoorFoC
namespace Go.Proofs.YtlbmpbkfkmabaaaGreatDoor
open Go Go.RowKit Ev

def letB (c : Int) : Bool := match match decide (c ≥ 65) with | true => decide (c ≤ 90) | false => false with | true => true | false => (match decide (c ≥ 97) with | true => decide (c ≤ 122) | false => false)
def namB (c : Int) : Bool := match match match match letB c with | true => true | false => (match decide (c ≥ 48) with | true => decide (c ≤ 57) | false => false) with | true => true | false => c == 95 with | true => true | false => c == 46 with | true => true | false => c == 36
def specLet : List Value → Option (Value × List Prop)
  | [.int .u8 c] => some (.bool (letB c), [])
  | _ => none
def specNam : List Value → Option (Value × List Prop)
  | [.int .u8 c] => some (.bool (namB c), [])
  | _ => none
theorem let1 (c : Int) : pureCall (bKn.cx 12) [] 200 31 [.int .u8 c] [] = some (.bool (letB c), []) := by kernel_rfl
theorem let2 (c : Int) : pureCall (bKn.cx 12) [] 200 33 [.int .u8 c] [] = some (.bool (letB c), []) := by kernel_rfl
theorem nam1 (c : Int) : pureCall (bKn.cx 12) [] 200 32 [.int .u8 c] [] = some (.bool (namB c), []) := by kernel_rfl
theorem nam2 (c : Int) : pureCall (bKn.cx 12) [] 200 61 [.int .u8 c] [] = some (.bool (namB c), []) := by kernel_rfl
theorem pureC {b : Base} (hb : BaseOk b) {k : Nat} {L : Hints} {fuel : Nat} {ds : List Bool} {f : FuncId} {args : List Value} {v : Value} {l : List Prop} (h : pureCall (b.cx k) L fuel f args ds = some (v, l)) (hl : allP l) : Ev.Pure b.P b.J f args v := by
  obtain ⟨h1, h2⟩ := Base.cx_ok hb k
  have := pureCall_sound h1 h2 h hl
  cases k with
  | zero => exact this
  | succ k => exact this
theorem specLet_ok1 (args : List Value) (v : Value) (l : List Prop) (h : specLet args = some (v, l)) (_ : allP l) : Ev.Pure Tryz.prog J0 31 args v := by
  unfold specLet at h
  split at h
  · cases h; exact pureC bKn_ok (let1 _) trivial
  · cases h
theorem specLet_ok2 (args : List Value) (v : Value) (l : List Prop) (h : specLet args = some (v, l)) (_ : allP l) : Ev.Pure Tryz.prog J0 33 args v := by
  unfold specLet at h
  split at h
  · cases h; exact pureC bKn_ok (let2 _) trivial
  · cases h
theorem specNam_ok1 (args : List Value) (v : Value) (l : List Prop) (h : specNam args = some (v, l)) (_ : allP l) : Ev.Pure Tryz.prog J0 32 args v := by
  unfold specNam at h
  split at h
  · cases h; exact pureC bKn_ok (nam1 _) trivial
  · cases h
theorem specNam_ok2 (args : List Value) (v : Value) (l : List Prop) (h : specNam args = some (v, l)) (_ : allP l) : Ev.Pure Tryz.prog J0 61 args v := by
  unfold specNam at h
  split at h
  · cases h; exact pureC bKn_ok (nam2 _) trivial
  · cases h

noncomputable def tabLf0 : Tab := tabAdd 31 specLet (tabAdd 33 specLet (tabAdd 32 specNam (tabAdd 61 specNam tabN0)))
theorem tabLf0_ok : PcOk Tryz.prog J0 tabLf0 := tabAdd_ok specLet_ok1 (tabAdd_ok specLet_ok2 (tabAdd_ok specNam_ok1 (tabAdd_ok specNam_ok2 tabN0_ok)))
noncomputable def bLf0 : Base := ⟨Tryz.prog, J0, false, tabLf0, mtab0, 2000, xtN0⟩
theorem bLf0_ok : BaseOk bLf0 := ⟨progOk, tabLf0_ok, mtab0_ok _ _, xtN0_ok⟩
noncomputable abbrev XLf0 := bLf0.cx 12

end Go.Proofs.YtlbmpbkfkmabaaaGreatDoor
