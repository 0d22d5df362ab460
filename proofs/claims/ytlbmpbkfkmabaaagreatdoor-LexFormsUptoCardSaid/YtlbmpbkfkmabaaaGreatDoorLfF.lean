/-
  LexForms as a contract over what its list holds: texts of ordinary length.
-/
import Derived.Test.YtlbmpbkfkmabaaaGreatDoorLfE
import Derived.Test.YtlbmpbkfkmabaaaGreatDoorLeA
namespace Go.Proofs.YtlbmpbkfkmabaaaGreatDoor
open Go Go.RowKit Ev

abbrev gT1 (S : Nat → List UInt8) : Nat → Value := fun i => .string ⟨⟨S i⟩⟩
abbrev lfA (S : Nat → List UInt8) (m o : Nat) : List Arg := [.c (.f (gT1 S) m 1 o)]
noncomputable def lfT (S : Nat → List UInt8) (m o : Nat) (i : Int) : St := ⟨only 35 [(0, .slice (some ⟨11, o, some 12⟩) m 0), (3, .int .i64 i)], [(11, .fam (gT1 S) m 1 o)], 13, [], [], 0, none, [], 13⟩
noncomputable def cLf : Code := loopAt Tryz.prog 4 0
def lfC (x : List UInt8) : Bool := match !(nameB x == nameB x) with | true => true | false => !(quoT x == quoT x)
theorem lfC_no (x : List UInt8) : lfC x = false := by unfold lfC; simp
def lfQ (x : List UInt8) : Prop := condP [(11, !(nameB x == nameB x))] [(11, false)]
def lf_l (m o i : Nat) (x : List UInt8) : List Prop := [lfC x = false, lfQ x → x.length ≤ 1048576, lfQ x → FamIn (addO o i) o 1 m, lfQ x → ((0 : Int) ≤ i ∧ (i : Int) < m) ∧ 0 < m, lfQ x → x.length ≤ 1048576, lfQ x → FamIn (addO o i) o 1 m, lfQ x → ((0 : Int) ≤ i ∧ (i : Int) < m) ∧ 0 < m,
  x.length ≤ 1048576, FamIn (addO o i) o 1 m, (Int.ofNat 0 ≤ Int.ofNat i ∧ Int.ofNat i < Int.ofNat m) ∧ 0 < m, x.length ≤ 1048576, FamIn (addO o i) o 1 m, (Int.ofNat 0 ≤ Int.ofNat i ∧ Int.ofNat i < Int.ofNat m) ∧ 0 < m, decide (Int.ofNat i < Int.ofNat m) = true]

section
variable (S : Nat → List UInt8) (m o i : Nat)
set_option maxRecDepth 100000 in
theorem lf_go (hk : Ev.Pure Tryz.prog J0 16 [] (.bool true)) (hl : allP (lf_l m o i (S (famAt (addO o i) o 1)))) : Step XLf3 cLf (lfT S m o (i : Int)) .normal (lfT S m o (IntKind.i64.wrap ((i : Int) + 1))) :=
  step_of (Base.cx_ok (bLf3_ok hk) 12).1 progOk.mixed [] 200 [true, false] [] (by kernel_rfl) hl (by kernel_rfl) (by kernel_rfl)
set_option maxRecDepth 100000 in
theorem lf_end (hk : Ev.Pure Tryz.prog J0 16 [] (.bool true)) (hl : allP [decide (Int.ofNat i < Int.ofNat m) = false]) : Step XLf3 cLf (lfT S m o (i : Int)) (.exit 0) (lfT S m o (i : Int)) :=
  step_of (Base.cx_ok (bLf3_ok hk) 12).1 progOk.mixed [] 200 [false] [] (by kernel_rfl) hl (by kernel_rfl) (by kernel_rfl)
set_option maxRecDepth 100000 in
theorem lf_way : semR XLf3 [told (.exit 0) (fun _ => lfT S m o (m : Int))] bLf3.fuel 4 (lfA S m o) [.c (.v (.bool true))] [] = some [LoopTo XLf3 cLf (semStart XLf3 200 4 (lfA S m o) []) (.exit 0) (lfT S m o (m : Int)), Value.bool true = Value.bool true] := by kernel_rfl
theorem lf_into {x : AX} {s' : St} (h : LoopTo XLf3 cLf (lfT S m o ((0 : Nat) : Int)) x s') : LoopTo XLf3 cLf (semStart XLf3 200 4 (lfA S m o) []) x s' :=
  loop_into' h [] (by kernel_rfl) (by kernel_rfl) (by kernel_rfl)
end

/-- Of any texts of ordinary length the law answers true. -/
theorem lexForms_sem (S : Nat → List UInt8) (m o : Nat) (hm : m ≤ 9223372036854775807) (hS : ∀ i, i < m → (S i).length ≤ 1048576) :
    Ev.Sem Tryz.prog J0 4 (lfA S m o) [.c (.v (.bool true))] := by
  have hk := known11
  refine sem_of (bLf3_ok hk) 12 _ _ (lf_way S m o) ⟨lf_into S m o (loop_run (fun i => lfT S m o (i : Int)) m (by intro e; cases e) (fun i hi => ?_) (lf_end S m o m hk ⟨decide_eq_false (Int.lt_irrefl _), trivial⟩)), rfl, trivial⟩
  have hin : FamIn (addO o i) o 1 m := by
    have := famIn_mul (o := o) (sz := 1) (by decide) hi
    rw [Nat.mul_one] at this
    rw [addO_eq]
    exact this
  have hat : famAt (addO o i) o 1 = i := by
    have := famAt_mul (o := o) (i := i) (sz := 1) (by decide)
    rw [Nat.mul_one] at this
    rw [addO_eq]
    exact this
  have hb : (Int.ofNat 0 ≤ Int.ofNat i ∧ Int.ofNat i < Int.ofNat m) ∧ 0 < m := ⟨⟨Int.natCast_nonneg _, Int.ofNat_lt.2 hi⟩, by omega⟩
  have hlen : (S (famAt (addO o i) o 1)).length ≤ 1048576 := by rw [hat]; exact hS i hi
  have := lf_go S m o i hk ⟨lfC_no _, fun _ => hlen, fun _ => hin, fun _ => hb, fun _ => hlen, fun _ => hin, fun _ => hb, hlen, hin, hb, hlen, hin, hb, decide_eq_true (Int.ofNat_lt.2 hi), trivial⟩
  rw [wrap_inc (by omega)] at this
  exact this

end Go.Proofs.YtlbmpbkfkmabaaaGreatDoor
