/-
  The function that formula.Parse defers: where nothing panics it does nothing that is seen.
-/
import Derived.Test.YtlbmpbkfkmabaaaGreatDoorEvJK
import Derived.Test.YtlbmpbkfkmabaaaGreatDoorProg
import Derived.Tactics
import Derived.Tactics2
import Derived.Defers
import Derived.Recover
import Derived.Laws.Pointers
import Derived.RecoverIn
namespace Go.Proofs.YtlbmpbkfkmabaaaGreatDoor
open Go Go.RowKit Ev
set_option maxRecDepth 100000

theorem run_assert_nil (w : World) : (Instr.typeAssert .nilIface 20 97 true).run Tryz.prog w = .ok (.tuple #[.agg #[.int .i64 0, .int .i64 0], .bool false]) w := by
  unfold Instr.typeAssert
  simp [go_sem]

theorem quiet_parse : Quiet Tryz.prog 64 2 := by
  intro args w hs
  obtain ⟨l⟩ := args
  match l, hs with
  | [x, y], _ =>
  refine ⟨enters_of Tryz.func64 (by kernel_rfl) (c := _) rfl _ _, w.alloc (Obj.cells #[.int .i64 0, .int .i64 0] 97), ?_, ?_⟩
  · exact ⟨rfl, rfl, rfl, by simp, fun k hk => heap_alloc_old _ _ hk⟩
  · refine callsDIn_of_wpSIn Tryz.func64 rfl trivial fun c₀ cs hu => ?_
    apply wpSIn_seq
    apply wpSIn_region
    simp [wpOpsSIn, go_sem, recoverD, hu, Exit.thenS, run_assert_nil]
    apply wpSIn_seq
    apply wpSIn_region
    simp [wpOpsSIn, go_sem, Exit.thenS]
    refine wpSIn_cond (t := false) (by simp [Act.eval, Array.replicate]) ?_
    simp only [Bool.false_eq_true, if_false]
    refine wpSIn_of_wpIn rfl (wpIn_skip ?_)
    cases c₀
    simp_all [bodyPostS, results, Tryz.results64]

end Go.Proofs.YtlbmpbkfkmabaaaGreatDoor
