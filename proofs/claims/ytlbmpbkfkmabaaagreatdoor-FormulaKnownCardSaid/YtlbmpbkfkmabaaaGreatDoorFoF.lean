/-
  Layer 12's examples (closed): joined.
-/
import Derived.Test.YtlbmpbkfkmabaaaGreatDoorFoB
namespace Go.Proofs.YtlbmpbkfkmabaaaGreatDoor
open Go Go.RowKit Ev

def vo : Option CR → Option (Value × List Prop)
  | some r => some (r.v, r.obs)
  | none => none
theorem vo_some {x : Option CR} {v : Value} {l : List Prop} (h : vo x = some (v, l)) : ∃ r, x = some r ∧ r.v = v ∧ r.obs = l := by
  cases x with
  | none => cases h
  | some r => cases h; exact ⟨r, rfl, rfl, rfl⟩

set_option maxRecDepth 100000 in
theorem aw_2 : vo (endFn XFo Tryz.f17 Tryz.prog.globals.size (evCode XFo [] 1998 (tailC (tailC (bodyOf 17))) aw2)) = some (.bool true, [Quiet Tryz.prog 64 2]) := by kernel_rfl

theorem aw_fn : nthF Tryz.prog.funcs.toList 17 = some Tryz.f17 := by kernel_rfl
theorem aw_body : Tryz.f17.body = some (.seq (headC (bodyOf 17)) (.seq (headC (tailC (bodyOf 17))) (tailC (tailC (bodyOf 17))))) := by kernel_rfl
theorem aw_start : (⟨([] : List Value).map .v ++ List.replicate (Tryz.f17.ntmps - ([] : List Value).length) (.v undef), J0.tabs, Tryz.prog.globals.size, [], [], 0, none, [], Tryz.prog.globals.size⟩ : St) = aw0 := by kernel_rfl

theorem aw_call : ∃ r, evFn XFo [] 2000 17 [] J0.tabs Tryz.prog.globals.size [] = some r ∧ r.v = .bool true ∧ r.obs = [Quiet Tryz.prog 64 2] := by
  have e := evFn_end (X := XFo) (L := []) (fuel := 2000) (args := []) (H := J0.tabs) (n := Tryz.prog.globals.size) (ds := []) aw_fn aw_body
  rw [e, aw_start, evCode_seq aw_0, evCode_seq aw_1]
  exact vo_some aw_2

theorem awake12 : Ev.Pure Tryz.prog J0 17 [] (.bool true) := by
  obtain ⟨r, h1, h2, h3⟩ := aw_call
  obtain ⟨hX, hng⟩ := Base.cx_ok bFo1_ok 30
  exact pureCall_sound hX hng (pureCall_end rfl h1 (by rw [h2]; rfl) h2 h3) ⟨quiet_parse, trivial⟩

end Go.Proofs.YtlbmpbkfkmabaaaGreatDoor
