/-
  Layer 10 (addr): the letters of columns.
-/
import Derived.Test.YthclpocignpfhaaDoorAdA
namespace Go.Proofs.YthclpocignpfhaaDoor
open Go Go.RowKit Ev AdS

/-! Letters: a column's, one by one. -/

def chkS (o : Option (Value × List Prop)) (w : List UInt8) : Bool :=
  match o with
  | some (.string ⟨⟨l⟩⟩, []) => eqL l w
  | _ => false

theorem chkS_ok {o : Option (Value × List Prop)} {w : List UInt8} (h : chkS o w = true) : o = some (.string ⟨⟨w⟩⟩, []) := by
  unfold chkS at h
  split at h
  · rw [eqL_eq h]
  · cases h

set_option maxRecDepth 100000 in
theorem letters_all : ((List.range 256).all fun i => chkS (pureCall (bAuto.cx 6) [] 200 40 [.int .i64 (Int.ofNat (i + 1))] []) (letL (i + 1))) = true := by kernel_rfl

set_option maxRecDepth 100000 in
theorem rletters_all : ((List.range 256).all fun i => chkS (pureCall (bAuto.cx 6) [] 200 46 [.int .i64 (Int.ofNat (i + 1))] []) (letL (i + 1))) = true := by kernel_rfl

theorem letters_pure {n : Int} (h0 : 1 ≤ n) (h1 : n ≤ 256) : Pure Tryd.prog J0 40 [.int .i64 n] (.string ⟨⟨letL n.toNat⟩⟩) := by
  have := List.all_eq_true.1 letters_all (n.toNat - 1) (List.mem_range.2 (by omega))
  have e : Int.ofNat (n.toNat - 1 + 1) = n := by rw [show n.toNat - 1 + 1 = n.toNat by omega]; exact Int.toNat_of_nonneg (by omega)
  rw [e, show n.toNat - 1 + 1 = n.toNat by omega] at this
  exact pure_of bAuto_ok 6 [] [] (chkS_ok this) trivial

theorem rletters_pure {n : Int} (h0 : 1 ≤ n) (h1 : n ≤ 256) : Pure Tryd.prog J0 46 [.int .i64 n] (.string ⟨⟨letL n.toNat⟩⟩) := by
  have := List.all_eq_true.1 rletters_all (n.toNat - 1) (List.mem_range.2 (by omega))
  have e : Int.ofNat (n.toNat - 1 + 1) = n := by rw [show n.toNat - 1 + 1 = n.toNat by omega]; exact Int.toNat_of_nonneg (by omega)
  rw [e, show n.toNat - 1 + 1 = n.toNat by omega] at this
  exact pure_of bAuto_ok 6 [] [] (chkS_ok this) trivial

end Go.Proofs.YthclpocignpfhaaDoor
