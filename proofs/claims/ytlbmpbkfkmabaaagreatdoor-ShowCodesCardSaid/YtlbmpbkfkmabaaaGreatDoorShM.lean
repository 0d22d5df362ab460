/-
  Layer 6's examples, and its names (closed).
-/
import Derived.Test.YtlbmpbkfkmabaaaGreatDoorCij
import Derived.Test.YtlbmpbkfkmabaaaGreatDoorShBC
import Derived.Test.YtlbmpbkfkmabaaaGreatDoorShJ
namespace Go.Proofs.YtlbmpbkfkmabaaaGreatDoor
open Go Go.RowKit Ev

theorem read_s0 : Ev.Pure Tryz.prog J0 9 [.string ⟨⟨[115, 48]⟩⟩] (.tuple ⟨[.agg ⟨[.int .i64 3, .int .i64 0, .bool false, .int .i64 0]⟩, .int .i64 0]⟩) := by
  have h := read_pure (t := [115, 48]) (by decide)
  have e : Sh.code 3 0 false 0 = [115, 48] := by
    unfold Sh.code
    rw [show (0 : Int).toNat = 0 from rfl, Sh.d2_eq (by decide)]
    decide
  have hr := Sh.read_code (k := 3) (p := 0) (g := false) (w := 0) (by decide)
  rw [e] at hr
  unfold readV at h
  rw [hr] at h
  exact h

noncomputable def tabShM : Tab := tabAdd 9 (atS [([.string ⟨⟨[115, 48]⟩⟩], .tuple ⟨[.agg ⟨[.int .i64 3, .int .i64 0, .bool false, .int .i64 0]⟩, .int .i64 0]⟩)]) (tabAdd 47 (atS [([.agg ⟨[.bool false, .string ⟨⟨[49, 50, 51, 52, 53]⟩⟩, .int .i64 (-1)]⟩, .float .f64 4653144203864309760, .agg ⟨[.int .i64 2, .int .i64 2, .bool true, .int .i64 0]⟩], .string ⟨⟨[49, 44, 50, 51, 52, 46, 53, 48]⟩⟩)])
  (tabAdd 50 (atS [([.agg ⟨[.bool false, .string ⟨⟨[50, 55, 53]⟩⟩, .int .i64 (-2)]⟩, .float .f64 4613374868287651840, .agg ⟨[.int .i64 5, .int .i64 1, .bool false, .int .i64 7]⟩], .string ⟨⟨[50, 32, 51, 47, 52]⟩⟩)]) tabJ1))
theorem tabShM_ok : PcOk Tryz.prog J0 tabShM :=
  tabAdd_ok (atS_ok (fun p hp => by simp only [List.mem_cons, List.not_mem_nil, or_false] at hp; subst hp; exact read_s0))
  (tabAdd_ok (atS_ok (fun p hp => by simp only [List.mem_cons, List.not_mem_nil, or_false] at hp; subst hp; exact shb_fixed))
  (tabAdd_ok (atS_ok (fun p hp => by simp only [List.mem_cons, List.not_mem_nil, or_false] at hp; subst hp; exact shc_fraction)) tabJ1_ok))
/-- For closed arguments. -/
noncomputable def bShM : Base := ⟨Tryz.prog, J0, true, tabShM, mtab0, 2000, xtN0⟩
theorem bShM_ok : BaseOk bShM := ⟨progOk, tabShM_ok, mtab0_ok _ _, xtN0_ok⟩

set_option maxRecDepth 100000 in
theorem known06 : Ev.Pure Tryz.prog J0 11 [] (.bool true) :=
  pure_of bShM_ok 31 [] [] (l := []) (by kernel_rfl) trivial

end Go.Proofs.YtlbmpbkfkmabaaaGreatDoor
