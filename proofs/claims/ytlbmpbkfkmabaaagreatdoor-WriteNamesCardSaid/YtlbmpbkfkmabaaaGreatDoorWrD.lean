/-
  Layer 13's examples (closed): the other statements; joined; WriteNames answers true (printed by mkwrite.py).
-/
import Derived.Test.YtlbmpbkfkmabaaaGreatDoorWrB
import Derived.Test.YtlbmpbkfkmabaaaGreatDoorWrC
namespace Go.Proofs.YtlbmpbkfkmabaaaGreatDoor
open Go Go.RowKit Ev Wr

set_option maxRecDepth 1000000 in
theorem wr_0 : evCode XWr [] 1999 (headC (tl 0)) s0 = some (.normal, s1) := by kernel_rfl
set_option maxRecDepth 1000000 in
theorem wr_1 : evCode XWr [] 1998 (headC (tl 1)) s1 = some (.normal, s2) := by kernel_rfl
set_option maxRecDepth 1000000 in
theorem wr_4 : evCode XWr [] 1995 (headC (tl 4)) s4 = some (.normal, s5) := by kernel_rfl
set_option maxRecDepth 1000000 in
theorem wr_5 : evCode XWr [] 1994 (headC (tl 5)) s5 = some (.normal, s6) := by kernel_rfl
set_option maxRecDepth 1000000 in
theorem wr_6 : evCode XWr [] 1993 (headC (tl 6)) s6 = some (.normal, s7) := by kernel_rfl
set_option maxRecDepth 1000000 in
theorem wr_7 : vo (endFn XWr Tryz.f20 Tryz.prog.globals.size (evCode XWr [] 1993 (tl 7) s7)) = some (.bool true, []) := by kernel_rfl

theorem wr_fn : nthF Tryz.prog.funcs.toList 20 = some Tryz.f20 := by kernel_rfl
theorem wr_body : Tryz.f20.body = some (.seq (headC (tl 0)) (.seq (headC (tl 1)) (.seq (headC (tl 2)) (.seq (headC (tl 3)) (.seq (headC (tl 4)) (.seq (headC (tl 5)) (.seq (headC (tl 6)) (tl 7)))))))) := by kernel_rfl
theorem wr_start : (⟨([] : List Value).map .v ++ List.replicate (Tryz.f20.ntmps - ([] : List Value).length) (.v undef), J0.tabs, Tryz.prog.globals.size, [], [], 0, none, [], Tryz.prog.globals.size⟩ : St) = s0 := by kernel_rfl

theorem wr_call : ∃ r, evFn XWr [] 2000 20 [] J0.tabs Tryz.prog.globals.size [] = some r ∧ r.v = .bool true ∧ r.obs = [] := by
  have e := evFn_end (X := XWr) (L := []) (fuel := 2000) (args := []) (H := J0.tabs) (n := Tryz.prog.globals.size) (ds := []) wr_fn wr_body
  rw [e, wr_start, evCode_seq wr_0, evCode_seq wr_1, evCode_seq wr_2, evCode_seq wr_3, evCode_seq wr_4, evCode_seq wr_5, evCode_seq wr_6]
  exact vo_some wr_7

theorem known13 : Ev.Pure Tryz.prog J0 20 [] (.bool true) := by
  obtain ⟨r, h1, h2, h3⟩ := wr_call
  obtain ⟨hX, hng⟩ := Base.cx_ok bWm_ok 31
  exact pureCall_sound hX hng (pureCall_end rfl h1 (by rw [h2]; rfl) h2 h3) trivial

noncomputable def tabWr : Tab := tabAdd 20 (atS [([], .bool true)]) tab0
theorem tabWr_ok : PcOk Tryz.prog J0 tabWr := tabAdd_ok (atS_ok (fun p hp => by simp only [List.mem_cons, List.not_mem_nil, or_false] at hp; subst hp; exact known13)) (tab0_ok _ _)
noncomputable def bWr : Base := ⟨Tryz.prog, J0, true, tabWr, mtab0, 2000, xtN0⟩
theorem bWr_ok : BaseOk bWr := ⟨progOk, tabWr_ok, mtab0_ok _ _, xtN0_ok⟩

theorem writeNames_pure : Ev.Pure Tryz.prog J0 6 [] (.bool true) :=
  pure_of bWr_ok 31 [] [] (l := []) (by kernel_rfl) trivial

end Go.Proofs.YtlbmpbkfkmabaaaGreatDoor
