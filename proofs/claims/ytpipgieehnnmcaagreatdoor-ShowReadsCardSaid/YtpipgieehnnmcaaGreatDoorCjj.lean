/-
  Several texts in one (merge.py): Cj1, Cj2, Cj3, Cj.
-/
import Derived.Test.YtpipgieehnnmcaaGreatDoorCi

/-
  Closed contracts (printed by mkclosed2.py).
-/
namespace Go.Proofs.YtpipgieehnnmcaaGreatDoor
open Go Go.RowKit Ev

set_option maxRecDepth 100000 in
theorem cj1_0 : Pure Tryz.prog J0 23 [.float .f64 4653144203864309760] (.string ⟨⟨[49, 50, 51, 52, 46, 53]⟩⟩) :=
  pure_of bI1_ok 30 [] [] (l := []) (by kernel_rfl) trivial

end Go.Proofs.YtpipgieehnnmcaaGreatDoor

/-
  Closed contracts (printed by mkclosed2.py).
-/
namespace Go.Proofs.YtpipgieehnnmcaaGreatDoor
open Go Go.RowKit Ev

set_option maxRecDepth 100000 in
theorem cj2_0 : Pure Tryz.prog J0 23 [.float .f64 4613374868287651840] (.string ⟨⟨[50, 46, 55, 53]⟩⟩) :=
  pure_of bI1_ok 30 [] [] (l := []) (by kernel_rfl) trivial

end Go.Proofs.YtpipgieehnnmcaaGreatDoor

/-
  Closed contracts (printed by mkclosed2.py).
-/
namespace Go.Proofs.YtpipgieehnnmcaaGreatDoor
open Go Go.RowKit Ev

set_option maxRecDepth 100000 in
theorem cj3_0 : Pure Tryz.prog J0 23 [.float .f64 4591870180066957722] (.string ⟨⟨[48, 46, 49]⟩⟩) :=
  pure_of bI1_ok 30 [] [] (l := []) (by kernel_rfl) trivial

end Go.Proofs.YtpipgieehnnmcaaGreatDoor

/-
  Closed contracts as a table (printed by mkclosed2.py).
-/
namespace Go.Proofs.YtpipgieehnnmcaaGreatDoor
open Go Go.RowKit Ev

noncomputable def tabJ1 : Tab := tabAdd 23 (atS [([.float .f64 4653144203864309760], .string ⟨⟨[49, 50, 51, 52, 46, 53]⟩⟩), ([.float .f64 4613374868287651840], .string ⟨⟨[50, 46, 55, 53]⟩⟩), ([.float .f64 4591870180066957722], .string ⟨⟨[48, 46, 49]⟩⟩)]) (tabI1)
theorem tabJ1_ok : PcOk Tryz.prog J0 tabJ1 := tabAdd_ok (atS_ok (fun p hp => by simp only [List.mem_cons, List.not_mem_nil, or_false] at hp; rcases hp with rfl | rfl | rfl <;> first | exact cj1_0 | exact cj2_0 | exact cj3_0)) (tabI1_ok)
/-- For closed arguments. -/
noncomputable def bJ1 : Base := ⟨Tryz.prog, J0, true, tabJ1, mtab0, 2000, xtN0⟩
theorem bJ1_ok : BaseOk bJ1 := ⟨progOk, tabJ1_ok, mtab0_ok _ _, xtN0_ok⟩

end Go.Proofs.YtpipgieehnnmcaaGreatDoor
