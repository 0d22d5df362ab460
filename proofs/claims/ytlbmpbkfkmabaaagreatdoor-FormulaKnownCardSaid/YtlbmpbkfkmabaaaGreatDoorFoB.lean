/-
  Layer 12's examples (closed), in two parts: the formula that is read; what is asked of it.
-/
import Derived.Test.YtlbmpbkfkmabaaaGreatDoorFoD
import Derived.Test.YtlbmpbkfkmabaaaGreatDoorFoA
import Derived.Test.YtlbmpbkfkmabaaaGreatDoorFoE
namespace Go.Proofs.YtlbmpbkfkmabaaaGreatDoor
open Go Go.RowKit Ev

noncomputable abbrev XFo := bFo1.cx 30

noncomputable def bodyOf (f : Nat) : Code := match nthF Tryz.prog.funcs.toList f with
  | some fn => (match fn.body with | some c => c | none => .skip)
  | none => .skip
def headC : Code → Code
  | .seq a _ => a
  | c => c
def tailC : Code → Code
  | .seq _ b => b
  | c => c
noncomputable def aw0 : St := ⟨List.replicate 60 (.v undef), J0.tabs, Tryz.prog.globals.size, [], [], 0, none, [], Tryz.prog.globals.size⟩
abbrev awU : TV := .v undef
/-- Behind the first statement. -/
noncomputable def aw1 : St := ⟨.v (.bool false) :: List.replicate 59 (.v undef), J0.tabs, Tryz.prog.globals.size, [], [], 0, none, [], Tryz.prog.globals.size⟩
/-- Behind the formula's reading. -/
noncomputable def aw2 : St := ⟨[TV.v (Value.bool false), TV.v (Value.pointer (some { block := 179, off := 0 })), TV.v (Value.pointer (some { block := 180, off := 0 })), awU, awU, awU, awU, TV.v (Value.tuple { toList := [Value.agg { toList := [Value.int IntKind.i64 (Int.ofNat 7), Value.int IntKind.i64 (Int.ofNat 2), Value.float FloatKind.f64 0, Value.string { data := { toList := [] } }, Value.bool false, Value.int IntKind.i64 (Int.ofNat 0), Value.int IntKind.i64 (Int.ofNat 0), Value.int IntKind.i64 (Int.ofNat 0), Value.bool false, Value.bool false, Value.int IntKind.i64 (Int.ofNat 0), Value.int IntKind.i64 (Int.ofNat 0), Value.bool false, Value.bool false, Value.slice (some { block := 130, off := 0 }) 1 1] }, Value.agg { toList := [Value.int IntKind.i64 (Int.ofNat 0), Value.int IntKind.i64 (Int.ofNat 0)] }] }), TV.v (Value.tuple { toList := [Value.agg { toList := [Value.int IntKind.i64 (Int.ofNat 7), Value.int IntKind.i64 (Int.ofNat 2), Value.float FloatKind.f64 0, Value.string { data := { toList := [] } }, Value.bool false, Value.int IntKind.i64 (Int.ofNat 0), Value.int IntKind.i64 (Int.ofNat 0), Value.int IntKind.i64 (Int.ofNat 0), Value.bool false, Value.bool false, Value.int IntKind.i64 (Int.ofNat 0), Value.int IntKind.i64 (Int.ofNat 0), Value.bool false, Value.bool false, Value.slice (some { block := 130, off := 0 }) 1 1] }, Value.agg { toList := [Value.int IntKind.i64 (Int.ofNat 0), Value.int IntKind.i64 (Int.ofNat 0)] }] }), TV.v (Value.agg { toList := [Value.int IntKind.i64 (Int.ofNat 7), Value.int IntKind.i64 (Int.ofNat 2), Value.float FloatKind.f64 0, Value.string { data := { toList := [] } }, Value.bool false, Value.int IntKind.i64 (Int.ofNat 0), Value.int IntKind.i64 (Int.ofNat 0), Value.int IntKind.i64 (Int.ofNat 0), Value.bool false, Value.bool false, Value.int IntKind.i64 (Int.ofNat 0), Value.int IntKind.i64 (Int.ofNat 0), Value.bool false, Value.bool false, Value.slice (some { block := 130, off := 0 }) 1 1] }), TV.v (Value.agg { toList := [Value.int IntKind.i64 (Int.ofNat 0), Value.int IntKind.i64 (Int.ofNat 0)] }), awU, awU, awU, awU, awU, awU, awU, awU, awU, awU, awU, awU, awU, awU, awU, awU, awU, awU, awU, awU, awU, awU, awU, awU, awU, awU, awU, awU, awU, awU, awU, awU, awU, awU, awU, awU, awU, awU, awU, awU, awU, awU, awU, awU, awU, awU, awU, awU, awU],
  [(180, AObj.cells [Value.int IntKind.i64 (Int.ofNat 0), Value.int IntKind.i64 (Int.ofNat 0)] 61), (179, AObj.cells [Value.int IntKind.i64 (Int.ofNat 7), Value.int IntKind.i64 (Int.ofNat 2), Value.float FloatKind.f64 0, Value.string { data := { toList := [] } }, Value.bool false, Value.int IntKind.i64 (Int.ofNat 0), Value.int IntKind.i64 (Int.ofNat 0), Value.int IntKind.i64 (Int.ofNat 0), Value.bool false, Value.bool false, Value.int IntKind.i64 (Int.ofNat 0), Value.int IntKind.i64 (Int.ofNat 0), Value.bool false, Value.bool false, Value.slice (some { block := 130, off := 0 }) 1 1] 72), (130, AObj.cells [Value.int IntKind.i64 (Int.ofNat 8), Value.int IntKind.i64 (Int.ofNat 8), Value.float FloatKind.f64 0, Value.string { data := { toList := [] } }, Value.bool false, Value.int IntKind.i64 (Int.ofNat 0), Value.int IntKind.i64 (Int.ofNat 0), Value.int IntKind.i64 (Int.ofNat 0), Value.bool false, Value.bool false, Value.int IntKind.i64 (Int.ofNat 0), Value.int IntKind.i64 (Int.ofNat 0), Value.bool false, Value.bool false, Value.slice (some { block := 121, off := 0 }) 2 2] 72), (121, AObj.cells [Value.int IntKind.i64 (Int.ofNat 1), Value.int IntKind.i64 (Int.ofNat 0), Value.float FloatKind.f64 4611686018427387904, Value.string { data := { toList := [] } }, Value.bool false, Value.int IntKind.i64 (Int.ofNat 0), Value.int IntKind.i64 (Int.ofNat 0), Value.int IntKind.i64 (Int.ofNat 0), Value.bool false, Value.bool false, Value.int IntKind.i64 (Int.ofNat 0), Value.int IntKind.i64 (Int.ofNat 0), Value.bool false, Value.bool false, Value.slice none 0 0, Value.int IntKind.i64 (Int.ofNat 1), Value.int IntKind.i64 (Int.ofNat 0), Value.float FloatKind.f64 4611686018427387904, Value.string { data := { toList := [] } }, Value.bool false, Value.int IntKind.i64 (Int.ofNat 0), Value.int IntKind.i64 (Int.ofNat 0), Value.int IntKind.i64 (Int.ofNat 0), Value.bool false, Value.bool false, Value.int IntKind.i64 (Int.ofNat 0), Value.int IntKind.i64 (Int.ofNat 0), Value.bool false, Value.bool false, Value.slice none 0 0] 72)] ++ J0.tabs, 183, [], [Quiet Tryz.prog 64 2], 0, none, [], 11⟩

set_option maxRecDepth 100000 in
theorem aw_0 : evCode XFo [] 1999 (headC (bodyOf 17)) aw0 = some (.normal, aw1) := by kernel_rfl
set_option maxRecDepth 100000 in
theorem aw_1 : evCode XFo [] 1998 (headC (tailC (bodyOf 17))) aw1 = some (.normal, aw2) := by kernel_rfl

end Go.Proofs.YtlbmpbkfkmabaaaGreatDoor
