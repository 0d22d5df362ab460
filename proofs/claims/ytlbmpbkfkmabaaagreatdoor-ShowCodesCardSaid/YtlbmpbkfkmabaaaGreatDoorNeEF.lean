/-
  Several texts in one (merge.py): NeE, NeF.
-/
import Derived.Test.YtlbmpbkfkmabaaaGreatDoorNeB
import Derived.Test.YtlbmpbkfkmabaaaGreatDoorNeC
import Derived.Test.YtlbmpbkfkmabaaaGreatDoorNeD
import Derived.Test.YtlbmpbkfkmabaaaGreatDoorWiD

/-
  The fraction nearest to 75 / 100 with a denominator up to 9, as a contract.
-/
namespace Go.Proofs.YtlbmpbkfkmabaaaGreatDoor
open Go Go.RowKit Ev
abbrev neA : List Arg := [.a [.v (.bool false), .s 134 .u64 [75]], .a [.v (.bool false), .s 134 .u64 [100]], .c (.v (.int .i64 9))]
set_option maxRecDepth 100000 in
theorem ne_way (_q : Nat) : semR XNe [told (.exit 0) (fun _ => neR 9)] 200 83 neA [.c (.v (.int .i64 3)), .c (.v (.int .i64 4))] [] = some [LoopTo XNe cNe (semStart XNe 200 83 neA []) (.exit 0) (neR 9), Value.int IntKind.i64 (Int.ofNat 3) = Value.int IntKind.i64 (Int.ofNat 3), Value.int IntKind.i64 (Int.ofNat 4) = Value.int IntKind.i64 (Int.ofNat 4)] := by kernel_rfl

theorem ne_all : ∀ k, k < 9 → Step XNe cNe (neR k) .normal (neR (k + 1))
  | 0, _ => ne_0 | 1, _ => ne_1 | 2, _ => ne_2 | 3, _ => ne_3 | 4, _ => ne_4 | 5, _ => ne_5 | 6, _ => ne_6 | 7, _ => ne_7 | 8, _ => ne_8
  | n + 9, h => by omega

theorem ne_loop : LoopTo XNe cNe (neR 0) (.exit 0) (neR 9) := loop_run neR 9 (by intro e; cases e) ne_all ne_9

theorem ne_into : LoopTo XNe cNe (semStart XNe 200 83 neA []) (.exit 0) (neR 9) :=
  loop_into' ne_loop [] (by kernel_rfl) (by kernel_rfl) (by kernel_rfl)

end Go.Proofs.YtlbmpbkfkmabaaaGreatDoor

/-
  The fraction nearest to 75 / 100, in a table.
-/
namespace Go.Proofs.YtlbmpbkfkmabaaaGreatDoor
open Go Go.RowKit Ev Wd

set_option maxRecDepth 100000 in
theorem ne_way2 : semR XNe [told (.exit 0) (fun _ => neR 9)] bT1.fuel 83 neA [.c (.v (.int .i64 3)), .c (.v (.int .i64 4))] [] = some [LoopTo XNe cNe (semStart XNe 200 83 neA []) (.exit 0) (neR 9), Value.int IntKind.i64 3 = Value.int IntKind.i64 3, Value.int IntKind.i64 4 = Value.int IntKind.i64 4] := by kernel_rfl

theorem ne_sem : Ev.Sem Tryz.prog J0 83 neA [.c (.v (.int .i64 3)), .c (.v (.int .i64 4))] :=
  sem_of bT1_ok 30 _ _ ne_way2 ⟨ne_into, rfl, rfl, trivial⟩

def specNear : List Arg → Option (List Arg × List Prop)
  | [.a [.v (.bool false), .s e .u64 xs], .a [.v (.bool false), .s e' .u64 ys], .c (.v (.int .i64 m))] => some ([.c (.v (.int .i64 3)), .c (.v (.int .i64 4))], [(e = 134 ∧ e' = 134) ∧ xs = [75] ∧ ys = [100] ∧ m = 9])
  | _ => none
theorem specNear_ok : ∀ az rs l, specNear az = some (rs, l) → allP l → Ev.Sem Tryz.prog J0 83 az rs := by
  intro az rs l h hl
  unfold specNear at h
  split at h
  · cases h
    obtain ⟨⟨⟨h1, h2⟩, h3, h4, h5⟩, _⟩ := hl
    subst h1 h2 h3 h4 h5
    exact ne_sem
  · cases h

noncomputable def mtabNe : MTab := mtabAdd 83 (liftS [shI, shI, shV] specNear) mtab0
theorem mtabNe_ok : ClOk Tryz.prog J0 mtabNe := mtabAdd_ok (liftS_ok _ specNear_ok) (mtab0_ok _ _)
noncomputable def bNe : Base := ⟨Tryz.prog, J0, true, tabT1, mtabNe, 2000, xtN0⟩
theorem bNe_ok : BaseOk bNe := ⟨progOk, tabT1_ok, mtabNe_ok, xtN0_ok⟩

end Go.Proofs.YtlbmpbkfkmabaaaGreatDoor
