/-
  A closed run in parts: a function's body, statement by statement.
-/
import Derived.Test.YtlbmpbkfkmabaaaGreatDoorEvJK
namespace Go.Proofs.YtlbmpbkfkmabaaaGreatDoor.Ev
open Go Go.RowKit
noncomputable section

theorem evCode_seq {X : Cx} {L : Hints} {F : Nat} {a b : Code} {s s1 : St} (h : evCode X L F a s = some (.normal, s1)) : evCode X L (F + 1) (.seq a b) s = evCode X L F b s1 := by
  simp only [evCode, h]

/-- What a function's end makes of its last state. -/
def endFn (X : Cx) (fn : Func) (n : Nat) : Option (AX × St) → Option CR
  | none => none
  | some (x, ⟨tm, hp, nid, ds', obs, _, _, mk, _⟩) => match x with
    | .exit _ => none
    | _ => match Nat.ble n nid with
      | false => none
      | true => match killAll mk hp with
        | none => none
        | some H' => match evResult X.P X.auto tm H' fn.results.toList with
          | none => none
          | some (vs, l) => some ⟨oneOf vs, gcH (oneOf vs) n H', nid, quiets X.P mk (l ++ obs), ds'⟩

theorem evFn_end {X : Cx} {L : Hints} {fuel f n : Nat} {args : List Value} {H : Heap} {ds : List Bool} {fn : Func} {c : Code} (hf : nthF X.P.funcs.toList f = some fn) (hb : fn.body = some c) :
    evFn X L fuel f args H n ds = endFn X fn n (evCode X L fuel c ⟨args.map .v ++ List.replicate (fn.ntmps - args.length) (.v undef), H, n, ds, [], 0, none, [], n⟩) := by
  unfold evFn endFn
  rw [hf]
  dsimp only
  rw [hb]
  dsimp only
  generalize evCode X L fuel c _ = z
  cases z with
  | none => rfl
  | some p =>
    obtain ⟨x, s⟩ := p
    cases x <;> rfl

/-- A pure call out of what its function comes to. -/
theorem pureCall_end {X : Cx} {L : Hints} {fuel f : Nat} {args : List Value} {ds : List Bool} {r : CR} {v : Value} {l : List Prop} (ha : pureL args = true) (h : evFn X L fuel f args X.J.tabs X.P.globals.size ds = some r) (hv : pureV r.v = true) (e1 : r.v = v) (e2 : r.obs = l) :
    pureCall X L fuel f args ds = some (v, l) := by
  unfold pureCall
  rw [ha]
  dsimp only
  rw [h]
  dsimp only
  rw [hv]
  dsimp only
  rw [e1, e2]

def vo : Option CR → Option (Value × List Prop)
  | some r => some (r.v, r.obs)
  | none => none
theorem vo_some {x : Option CR} {v : Value} {l : List Prop} (h : vo x = some (v, l)) : ∃ r, x = some r ∧ r.v = v ∧ r.obs = l := by
  cases x with
  | none => cases h
  | some r => cases h; exact ⟨r, rfl, rfl, rfl⟩

end
end Go.Proofs.YtlbmpbkfkmabaaaGreatDoor.Ev
