/-
  What the bound on an input's bulk says of a list's texts.
-/
import Derived.Test.YtlbmpbkfkmabaaaGreatDoorSlG
namespace Go.Proofs.YtlbmpbkfkmabaaaGreatDoor
open Go.ChangeShapes Go.WideShapes

theorem bulk_part {H : Type} {d : DataW H} {l : List (DataW H)} (h : d ∈ l) : Rows.uptoBulk d ≤ Rows.uptoBulkAll l := by
  induction l with
  | nil => cases h
  | cons x r ih =>
    simp only [Rows.uptoBulkAll]
    cases List.mem_cons.1 h with
    | inl e => subst e; omega
    | inr e => have := ih e; omega
theorem bulk_texts {H : Type} {n : Nat} {S : Nat → List UInt8} {rest r : List (DataW H)} (h : Rows.uptoSmall H (.slice ((List.range n).map fun i => .lit (.string (S i))) rest :: r) = true) : ∀ i, i < n → (S i).length ≤ 1048576 := by
  intro i hi
  have h := of_decide_eq_true h
  simp only [Rows.uptoBulkAll, Rows.uptoBulk] at h
  have := bulk_part (H := H) (d := .lit (.string (S i))) (l := (List.range n).map fun i => .lit (.string (S i))) (List.mem_map.2 ⟨i, List.mem_range.2 hi, rfl⟩)
  simp only [Rows.uptoBulk] at this
  omega

end Go.Proofs.YtlbmpbkfkmabaaaGreatDoor
