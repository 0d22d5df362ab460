/-
  Layer 10 (addr), AddrAreas: 'gone' and the reference's Cells as contracts over memory.
-/
import Derived.Test.YthclpocignpfhaaDoorAdGd
namespace Go.Proofs.YthclpocignpfhaaDoor
open Go Go.RowKit Ev AdS

/-! 'gone' from beginning to end. -/

def condK (kA leave : Int) (N : Nat) : Bool :=
  match (match kA != minG (maxG leave 1) (N : Int) with
    | true => decide (leave > 0)
    | false => false) with
  | true => true
  | false => match decide (leave ≤ 0) with
    | true => kA != (N : Int)
    | false => false

theorem condK_left {leave : Int} {N : Nat} (h1 : 1 ≤ leave) (h2 : leave ≤ (N : Int)) : condK leave leave N = false := by
  have e : minG (maxG leave 1) (N : Int) = leave := by unfold minG maxG; split <;> split <;> omega
  unfold condK
  rw [e, decide_eq_false (show ¬ leave ≤ 0 by omega)]
  simp
theorem condK_end {leave : Int} {N : Nat} (h : ¬ (1 ≤ leave ∧ leave ≤ (N : Int))) : condK N leave N = false := by
  by_cases h0 : leave ≤ 0
  · unfold condK
    rw [decide_eq_true h0, decide_eq_false (show ¬ leave > 0 by omega)]
    cases ((N : Int) != minG (maxG leave 1) (N : Int)) <;> simp
  · have e : minG (maxG leave 1) (N : Int) = N := by unfold minG maxG; split <;> split <;> omega
    unfold condK
    rw [e, decide_eq_false h0]
    simp

noncomputable def bGG (brk : Bool) (x y kA c d : Int) (N : Nat) : Base := ⟨Tryd.prog, J0, false, tabY2, mtabL bY2 10 [told .ret (fun S => match getT S.tmps 0 with | .v (.func (.yield 24) _ _) => TA S brk x y kA | _ => TB S c d N)] 49, 200⟩
theorem bGG_ok (brk : Bool) (x y kA c d : Int) (N : Nat) : BaseOk (bGG brk x y kA c d N) := ⟨progOk, tabY2_ok, mtabL_ok bY2_ok _ _ _⟩

section
variable (a b c d leave : Int) (cap : Nat)

set_option maxRecDepth 100000 in
theorem loopA_into {x y kA : Int} {brk : Bool} (h : LoopTo X2 c49 (TA (SAv a b c d leave cap) false a b 0) .ret (TA (SAv a b c d leave cap) brk x y kA)) : LoopTo X2 c49 (SAv a b c d leave cap) .ret (TA (SAv a b c d leave cap) brk x y kA) :=
  loop_into' h [] (by kernel_rfl) (by kernel_rfl) (by kernel_rfl)
set_option maxRecDepth 100000 in
theorem loopB_into0 (kA : Int) (h : LoopTo X2 c49 (TB (SBv a b c d leave cap kA) a b 0) .ret (TB (SBv a b c d leave cap kA) c d (cellsN a b c d))) : LoopTo X2 c49 (SBx a b c d leave (cellsNs a b c d) (cellsN a b c d) cap kA false) .ret (TB (SBv a b c d leave cap kA) c d (cellsN a b c d)) :=
  loop_into' h [] (by kernel_rfl) (by kernel_rfl) (by kernel_rfl)
set_option maxRecDepth 100000 in
theorem loopB_into1 (kA : Int) (h : LoopTo X2 c49 (TB (SBv a b c d leave cap kA) a b 0) .ret (TB (SBv a b c d leave cap kA) c d (cellsN a b c d))) : LoopTo X2 c49 (SBx a b c d leave (cellsNs a b c d) (cellsN a b c d) cap kA true) .ret (TB (SBv a b c d leave cap kA) c d (cellsN a b c d)) :=
  loop_into' h [] (by kernel_rfl) (by kernel_rfl) (by kernel_rfl)

abbrev goneOut (r : Option CR) (l : List Prop) (N : Nat) (K : Int) (ns : List Int) : Prop := r = some ⟨.bool (K == (N : Int)), HG ns, 51, l, []⟩

set_option maxRecDepth 100000 in
theorem gone_ev0 (x y kA : Int) : evFn ((bGG false x y kA c d (cellsN a b c d)).cx 10) [] 200 27 [vArea a b c d, wArg (cellsN a b c d) cap, vi leave] (HG (cellsNs a b c d)) 7 [false, false, false, false] =
    some ⟨.bool ((cellsN a b c d : Int) == (cellsN a b c d : Int)), HG (cellsNs a b c d), 51, [LoopTo X2 c49 (SBx a b c d leave (cellsNs a b c d) (cellsN a b c d) cap kA false) .ret (TB (SBv a b c d leave cap kA) c d (cellsN a b c d)), (!areaB a b c d) = false, condK kA leave (cellsN a b c d) = false,
      LoopTo X2 c49 (SAv a b c d leave cap) .ret (TA (SAv a b c d leave cap) false x y kA), (!areaB a b c d) = false, false = false], []⟩ := by kernel_rfl
set_option maxRecDepth 100000 in
theorem gone_ev1 (x y kA : Int) : evFn ((bGG true x y kA c d (cellsN a b c d)).cx 10) [] 200 27 [vArea a b c d, wArg (cellsN a b c d) cap, vi leave] (HG (cellsNs a b c d)) 7 [false, false, false, false] =
    some ⟨.bool ((cellsN a b c d : Int) == (cellsN a b c d : Int)), HG (cellsNs a b c d), 51, [LoopTo X2 c49 (SBx a b c d leave (cellsNs a b c d) (cellsN a b c d) cap kA true) .ret (TB (SBv a b c d leave cap kA) c d (cellsN a b c d)), (!areaB a b c d) = false, condK kA leave (cellsN a b c d) = false,
      LoopTo X2 c49 (SAv a b c d leave cap) .ret (TA (SAv a b c d leave cap) true x y kA), (!areaB a b c d) = false, false = false], []⟩ := by kernel_rfl
end

end Go.Proofs.YthclpocignpfhaaDoor
