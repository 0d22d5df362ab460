/-
  wide: the contracts so far as tables; numbers with signs.
-/
import Derived.Test.YtaopinmjgjpiiaaGreatDoorWiC
namespace Go.Proofs.YtaopinmjgjpiiaaGreatDoor
open Go Go.RowKit Ev Wd

abbrev shW : AS := .c (.s u64T .u64)
abbrev shI : AS := .a [.v, .s u64T .u64]
abbrev shV : AS := .c .v

/-- Sums, differences in words. -/
def sumW (xs ys : List Int) : List Int := dl W64 (1 + max xs.length ys.length) (val W64 xs + val W64 ys)
def difW (xs ys : List Int) : List Int := dl W64 xs.length (val W64 xs - val W64 ys)

def specPlus : List Arg → Option (List Arg × List Prop)
  | [.c (.s 29 .u64 xs), .c (.s 29 .u64 ys)] => some ([wS (sumW xs ys)], [Dg W64 xs, Dg W64 ys, xs.length < 1099511627776, ys.length < 1099511627776])
  | _ => none
def specMinus : List Arg → Option (List Arg × List Prop)
  | [.c (.s 29 .u64 xs), .c (.s 29 .u64 ys)] => some ([wS (difW xs ys)], [Dg W64 xs, Dg W64 ys, val W64 ys ≤ val W64 xs, xs.length < 1099511627776, ys.length ≤ xs.length])
  | _ => none
def specCompare : List Arg → Option (List Arg × List Prop)
  | [.c (.s 29 .u64 xs), .c (.s 29 .u64 ys)] => some ([.c (.v (.int .i64 (cmpI xs ys)))], [Dg W64 xs, Dg W64 ys, xs.length < 1099511627776, ys.length < 1099511627776])
  | _ => none

theorem specPlus_ok : ∀ az rs l, specPlus az = some (rs, l) → allP l → Ev.Sem Tryz.prog J0 254 az rs := by
  intro az rs l h hl
  unfold specPlus at h
  split at h
  · cases h
    obtain ⟨h1, h2, h3, h4, _⟩ := hl
    have := plus_sem h1 h2 h3 h4
    rw [Nat.add_comm] at this
    exact this
  · cases h
theorem specMinus_ok : ∀ az rs l, specMinus az = some (rs, l) → allP l → Ev.Sem Tryz.prog J0 255 az rs := by
  intro az rs l h hl
  unfold specMinus at h
  split at h
  · cases h
    obtain ⟨h1, h2, h3, h4, h5, _⟩ := hl
    exact minus_sem h1 h2 h3 h4 h5
  · cases h
theorem specCompare_ok : ∀ az rs l, specCompare az = some (rs, l) → allP l → Ev.Sem Tryz.prog J0 250 az rs := by
  intro az rs l h hl
  unfold specCompare at h
  split at h
  · cases h
    obtain ⟨h1, h2, h3, h4, _⟩ := hl
    exact compare_sem h1 h2 h3 h4
  · cases h

noncomputable def mtabW1 : MTab := mtabAdd 191 specMade (mtabAdd 254 (liftS [shW, shW] specPlus) (mtabAdd 255 (liftS [shW, shW] specMinus) (mtabAdd 250 (liftS [shW, shW] specCompare) mtab0)))

theorem mtabW1_ok : ClOk Tryz.prog J0 mtabW1 := mtabAdd_ok specMade_ok (mtabAdd_ok (liftS_ok _ specPlus_ok) (mtabAdd_ok (liftS_ok _ specMinus_ok) (mtabAdd_ok (liftS_ok _ specCompare_ok) (mtab0_ok _ _))))
noncomputable def bW1 : Base := ⟨Tryz.prog, J0, false, tabW0, mtabW1, 200, xtN0⟩
theorem bW1_ok : BaseOk bW1 := ⟨progOk, tabW0_ok, mtabW1_ok, xtN0_ok⟩
noncomputable abbrev XW1 : Cx := bW1.cx 10

/-- A whole number: its sign, its magnitude. -/
abbrev iN (neg : Bool) (m : Nat) : Arg := .a [.v (.bool neg), .s u64T .u64 (ws W64 m)]

end Go.Proofs.YtaopinmjgjpiiaaGreatDoor
