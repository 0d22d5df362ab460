/-
  Layer 10 (addr): ParseArea. (The ways through the range over the text's pieces are printed by wip/mkparea.py.)
-/
import Derived.Test.YthclpocignpfhaaDoorAdZ
namespace Go.Proofs.YthclpocignpfhaaDoor
open Go Go.RowKit Ev AdS

abbrev cI (s : List UInt8) : Int := Lib.indexByte s 58
def hdS (s : List UInt8) : List UInt8 := s.take (IntKind.i64.wrap (cI s + 0)).toNat
def tlS (s : List UInt8) : List UInt8 := s.drop (IntKind.i64.wrap (cI s + 1)).toNat
def inS (s : List UInt8) : Prop := 0 ≤ IntKind.i64.wrap (cI s + 0) ∧ IntKind.i64.wrap (cI s + 0) ≤ (s.length : Int)
def inT (s : List UInt8) : Prop := 0 ≤ IntKind.i64.wrap (cI s + 1) ∧ IntKind.i64.wrap (cI s + 1) ≤ (s.length : Int)

def vErr (e : Int) : Value := .tuple ⟨[vArea 0 0 0 0, vi e]⟩

theorem idx_lt : ∀ (s : List UInt8), cI s < (s.length : Int) ∨ cI s = -1
  | [] => .inr rfl
  | b :: l => by
    unfold cI Lib.indexByte
    have := idx_lt l
    unfold cI at this
    split
    · left; simp
    · split
      · exact .inr rfl
      · left; simp; rename_i h; simp at h; omega

theorem in_ok {s : List UInt8} (hs : s.length ≤ 9223372036854775807) (h : decide (cI s < 0) = false) : inS s ∧ inT s := by
  have h := of_decide_eq_false h
  have := idx_lt s
  have h2 : cI s < (s.length : Int) := by omega
  unfold inS inT
  rw [wrapS (n := cI s + 0) (by omega) (by omega), wrapS (n := cI s + 1) (by omega) (by omega)]
  omega

theorem tlS_len {s : List UInt8} (hs : s.length ≤ 9223372036854775807) : (tlS s).length ≤ 9223372036854775807 := by
  unfold tlS; rw [List.length_drop]; omega


set_option maxRecDepth 100000 in
theorem pa_1 (s : List UInt8) (_hs : s.length ≤ 9223372036854775807) (h1 : decide (cI s < 0) = true) (h2 : ((parseS s).e == 3) = true) : Pure Tryd.prog J0 11 [.string ⟨⟨s⟩⟩] (vErr 3) :=
  pure_of bZ2_ok 10 [] [false, true, true] (l := [((parseS s).e == 3) = true, decide (cI s < 0) = true, ([58] : List UInt8) = [58], false = false]) (by kernel_rfl) ⟨h2, h1, rfl, rfl, trivial⟩


set_option maxRecDepth 100000 in
theorem pa_2 (s : List UInt8) (_hs : s.length ≤ 9223372036854775807) (h1 : decide (cI s < 0) = true) (h2 : ((parseS s).e == 3) = false) (h3 : ((parseS s).e != 0) = true) : Pure Tryd.prog J0 11 [.string ⟨⟨s⟩⟩] (vErr (parseS s).e) :=
  pure_of bZ2_ok 10 [] [false, true, false, true, true] (l := [((parseS s).e != 0) = true, ((0 : Int) ≤ 0 ∧ (0 : Int) < 2), ((parseS s).e != 0) = true, ((parseS s).e == 3) = false, decide (cI s < 0) = true, ([58] : List UInt8) = [58], false = false]) (by kernel_rfl) ⟨h3, ⟨by decide, by decide⟩, h3, h2, h1, rfl, rfl, trivial⟩


set_option maxRecDepth 100000 in
theorem pa_3 (s : List UInt8) (_hs : s.length ≤ 9223372036854775807) (h1 : decide (cI s < 0) = true) (h2 : ((parseS s).e == 3) = false) (h3 : ((parseS s).e != 0) = false) : Pure Tryd.prog J0 11 [.string ⟨⟨s⟩⟩] (vArR (parseS s).c (parseS s).r (parseS s).c (parseS s).r) :=
  pure_of bZ2_ok 10 [] [false, true, false, false, false] (l := [((0 : Int) ≤ 0 ∧ (0 : Int) < 2), ((0 : Int) ≤ 0 ∧ (0 : Int) < 2), false = false, ((0 : Int) ≤ 0 ∧ (0 : Int) < 2), ((parseS s).e != 0) = false, ((parseS s).e == 3) = false, decide (cI s < 0) = true, ([58] : List UInt8) = [58], false = false]) (by kernel_rfl) ⟨⟨by decide, by decide⟩, ⟨by decide, by decide⟩, rfl, ⟨by decide, by decide⟩, h3, h2, h1, rfl, rfl, trivial⟩


set_option maxRecDepth 100000 in
theorem pa_4 (s : List UInt8) (hs : s.length ≤ 9223372036854775807) (h1 : decide (cI s < 0) = false) (h2 : ((parseS (hdS s)).e == 3) = true) : Pure Tryd.prog J0 11 [.string ⟨⟨s⟩⟩] (vErr 3) :=
  pure_of bZ2_ok 10 [] [false, false, true] (l := [((parseS (hdS s)).e == 3) = true, inS s, decide (cI s < 0) = false, ([58] : List UInt8) = [58], false = false]) (by kernel_rfl) ⟨h2, (in_ok hs h1).1, h1, rfl, rfl, trivial⟩


set_option maxRecDepth 100000 in
theorem pa_5t (s : List UInt8) (hs : s.length ≤ 9223372036854775807) (h1 : decide (cI s < 0) = false) (h2 : ((parseS (hdS s)).e == 3) = false) (h3 : ((parseS (hdS s)).e != 0) = true) (h4 : decide (cI (tlS s) < 0) = true) (h5 : ((parseS (tlS s)).e == 3) = true) : Pure Tryd.prog J0 11 [.string ⟨⟨s⟩⟩] (vErr 3) :=
  pure_of bZ2_ok 10 [] [false, false, false, true, false, true, true] (l := [((parseS (tlS s)).e == 3) = true, decide (cI (tlS s) < 0) = true, ([58] : List UInt8) = [58], inT s, false = false, ((0 : Int) ≤ 0 ∧ (0 : Int) < 2), ((parseS (hdS s)).e != 0) = true, ((parseS (hdS s)).e == 3) = false, inS s, decide (cI s < 0) = false, ([58] : List UInt8) = [58], false = false]) (by kernel_rfl) ⟨h5, h4, rfl, (in_ok hs h1).2, rfl, ⟨by decide, by decide⟩, h3, h2, (in_ok hs h1).1, h1, rfl, rfl, trivial⟩


set_option maxRecDepth 100000 in
theorem pa_6tt (s : List UInt8) (hs : s.length ≤ 9223372036854775807) (h1 : decide (cI s < 0) = false) (h2 : ((parseS (hdS s)).e == 3) = false) (h3 : ((parseS (hdS s)).e != 0) = true) (h4 : decide (cI (tlS s) < 0) = true) (h5 : ((parseS (tlS s)).e == 3) = false) (h6 : ((parseS (tlS s)).e != 0) = true) : Pure Tryd.prog J0 11 [.string ⟨⟨s⟩⟩] (vErr (parseS (tlS s)).e) :=
  pure_of bZ2_ok 10 [] [false, false, false, true, false, true, false, true, true] (l := [((parseS (tlS s)).e != 0) = true, ((0 : Int) ≤ 1 ∧ (1 : Int) < 2), ((parseS (tlS s)).e != 0) = true, ((parseS (tlS s)).e == 3) = false, decide (cI (tlS s) < 0) = true, ([58] : List UInt8) = [58], inT s, false = false, ((0 : Int) ≤ 0 ∧ (0 : Int) < 2), ((parseS (hdS s)).e != 0) = true, ((parseS (hdS s)).e == 3) = false, inS s, decide (cI s < 0) = false, ([58] : List UInt8) = [58], false = false]) (by kernel_rfl) ⟨h6, ⟨by decide, by decide⟩, h6, h5, h4, rfl, (in_ok hs h1).2, rfl, ⟨by decide, by decide⟩, h3, h2, (in_ok hs h1).1, h1, rfl, rfl, trivial⟩


set_option maxRecDepth 100000 in
theorem pa_6tf (s : List UInt8) (hs : s.length ≤ 9223372036854775807) (h1 : decide (cI s < 0) = false) (h2 : ((parseS (hdS s)).e == 3) = false) (h3 : ((parseS (hdS s)).e != 0) = true) (h4 : decide (cI (tlS s) < 0) = true) (h5 : ((parseS (tlS s)).e == 3) = false) (h6 : ((parseS (tlS s)).e != 0) = false) : Pure Tryd.prog J0 11 [.string ⟨⟨s⟩⟩] (vErr (parseS (hdS s)).e) :=
  pure_of bZ2_ok 10 [] [false, false, false, true, false, true, false, false, true] (l := [((parseS (hdS s)).e != 0) = true, ((0 : Int) ≤ 1 ∧ (1 : Int) < 2), ((parseS (tlS s)).e != 0) = false, ((parseS (tlS s)).e == 3) = false, decide (cI (tlS s) < 0) = true, ([58] : List UInt8) = [58], inT s, false = false, ((0 : Int) ≤ 0 ∧ (0 : Int) < 2), ((parseS (hdS s)).e != 0) = true, ((parseS (hdS s)).e == 3) = false, inS s, decide (cI s < 0) = false, ([58] : List UInt8) = [58], false = false]) (by kernel_rfl) ⟨h3, ⟨by decide, by decide⟩, h6, h5, h4, rfl, (in_ok hs h1).2, rfl, ⟨by decide, by decide⟩, h3, h2, (in_ok hs h1).1, h1, rfl, rfl, trivial⟩


set_option maxRecDepth 100000 in
theorem pa_7t (s : List UInt8) (hs : s.length ≤ 9223372036854775807) (h1 : decide (cI s < 0) = false) (h2 : ((parseS (hdS s)).e == 3) = false) (h3 : ((parseS (hdS s)).e != 0) = true) (h4 : decide (cI (tlS s) < 0) = false) (h5 : ((parseS (hdS (tlS s))).e == 3) = true) : Pure Tryd.prog J0 11 [.string ⟨⟨s⟩⟩] (vErr 3) :=
  pure_of bZ2_ok 10 [] [false, false, false, true, false, false, true] (l := [((parseS (hdS (tlS s))).e == 3) = true, inS (tlS s), decide (cI (tlS s) < 0) = false, ([58] : List UInt8) = [58], inT s, false = false, ((0 : Int) ≤ 0 ∧ (0 : Int) < 2), ((parseS (hdS s)).e != 0) = true, ((parseS (hdS s)).e == 3) = false, inS s, decide (cI s < 0) = false, ([58] : List UInt8) = [58], false = false]) (by kernel_rfl) ⟨h5, (in_ok (tlS_len hs) h4).1, h4, rfl, (in_ok hs h1).2, rfl, ⟨by decide, by decide⟩, h3, h2, (in_ok hs h1).1, h1, rfl, rfl, trivial⟩


set_option maxRecDepth 100000 in
theorem pa_8ttt (s : List UInt8) (hs : s.length ≤ 9223372036854775807) (h1 : decide (cI s < 0) = false) (h2 : ((parseS (hdS s)).e == 3) = false) (h3 : ((parseS (hdS s)).e != 0) = true) (h4 : decide (cI (tlS s) < 0) = false) (h5 : ((parseS (hdS (tlS s))).e == 3) = false) (h6 : ((parseS (hdS (tlS s))).e != 0) = true) (h7 : decide (cI (tlS (tlS s)) < 0) = true) : Pure Tryd.prog J0 11 [.string ⟨⟨s⟩⟩] (vErr 3) :=
  pure_of bZ2_ok 10 [] [false, false, false, true, false, false, false, true, false, true, true] (l := [true = true, decide (cI (tlS (tlS s)) < 0) = true, ([58] : List UInt8) = [58], inT (tlS s), false = false, ((0 : Int) ≤ 1 ∧ (1 : Int) < 2), ((parseS (hdS (tlS s))).e != 0) = true, ((parseS (hdS (tlS s))).e == 3) = false, inS (tlS s), decide (cI (tlS s) < 0) = false, ([58] : List UInt8) = [58], inT s, false = false, ((0 : Int) ≤ 0 ∧ (0 : Int) < 2), ((parseS (hdS s)).e != 0) = true, ((parseS (hdS s)).e == 3) = false, inS s, decide (cI s < 0) = false, ([58] : List UInt8) = [58], false = false]) (by kernel_rfl) ⟨rfl, h7, rfl, (in_ok (tlS_len hs) h4).2, rfl, ⟨by decide, by decide⟩, h6, h5, (in_ok (tlS_len hs) h4).1, h4, rfl, (in_ok hs h1).2, rfl, ⟨by decide, by decide⟩, h3, h2, (in_ok hs h1).1, h1, rfl, rfl, trivial⟩


set_option maxRecDepth 100000 in
theorem pa_8ttf (s : List UInt8) (hs : s.length ≤ 9223372036854775807) (h1 : decide (cI s < 0) = false) (h2 : ((parseS (hdS s)).e == 3) = false) (h3 : ((parseS (hdS s)).e != 0) = true) (h4 : decide (cI (tlS s) < 0) = false) (h5 : ((parseS (hdS (tlS s))).e == 3) = false) (h6 : ((parseS (hdS (tlS s))).e != 0) = true) (h7 : decide (cI (tlS (tlS s)) < 0) = false) : Pure Tryd.prog J0 11 [.string ⟨⟨s⟩⟩] (vErr 3) :=
  pure_of bZ2_ok 10 [] [false, false, false, true, false, false, false, true, false, false, true] (l := [true = true, inS (tlS (tlS s)), decide (cI (tlS (tlS s)) < 0) = false, ([58] : List UInt8) = [58], inT (tlS s), false = false, ((0 : Int) ≤ 1 ∧ (1 : Int) < 2), ((parseS (hdS (tlS s))).e != 0) = true, ((parseS (hdS (tlS s))).e == 3) = false, inS (tlS s), decide (cI (tlS s) < 0) = false, ([58] : List UInt8) = [58], inT s, false = false, ((0 : Int) ≤ 0 ∧ (0 : Int) < 2), ((parseS (hdS s)).e != 0) = true, ((parseS (hdS s)).e == 3) = false, inS s, decide (cI s < 0) = false, ([58] : List UInt8) = [58], false = false]) (by kernel_rfl) ⟨rfl, (in_ok (tlS_len (tlS_len hs)) h7).1, h7, rfl, (in_ok (tlS_len hs) h4).2, rfl, ⟨by decide, by decide⟩, h6, h5, (in_ok (tlS_len hs) h4).1, h4, rfl, (in_ok hs h1).2, rfl, ⟨by decide, by decide⟩, h3, h2, (in_ok hs h1).1, h1, rfl, rfl, trivial⟩


set_option maxRecDepth 100000 in
theorem pa_8tft (s : List UInt8) (hs : s.length ≤ 9223372036854775807) (h1 : decide (cI s < 0) = false) (h2 : ((parseS (hdS s)).e == 3) = false) (h3 : ((parseS (hdS s)).e != 0) = true) (h4 : decide (cI (tlS s) < 0) = false) (h5 : ((parseS (hdS (tlS s))).e == 3) = false) (h6 : ((parseS (hdS (tlS s))).e != 0) = false) (h7 : decide (cI (tlS (tlS s)) < 0) = true) : Pure Tryd.prog J0 11 [.string ⟨⟨s⟩⟩] (vErr 3) :=
  pure_of bZ2_ok 10 [] [false, false, false, true, false, false, false, false, false, true, true] (l := [true = true, decide (cI (tlS (tlS s)) < 0) = true, ([58] : List UInt8) = [58], inT (tlS s), false = false, ((0 : Int) ≤ 1 ∧ (1 : Int) < 2), ((parseS (hdS (tlS s))).e != 0) = false, ((parseS (hdS (tlS s))).e == 3) = false, inS (tlS s), decide (cI (tlS s) < 0) = false, ([58] : List UInt8) = [58], inT s, false = false, ((0 : Int) ≤ 0 ∧ (0 : Int) < 2), ((parseS (hdS s)).e != 0) = true, ((parseS (hdS s)).e == 3) = false, inS s, decide (cI s < 0) = false, ([58] : List UInt8) = [58], false = false]) (by kernel_rfl) ⟨rfl, h7, rfl, (in_ok (tlS_len hs) h4).2, rfl, ⟨by decide, by decide⟩, h6, h5, (in_ok (tlS_len hs) h4).1, h4, rfl, (in_ok hs h1).2, rfl, ⟨by decide, by decide⟩, h3, h2, (in_ok hs h1).1, h1, rfl, rfl, trivial⟩


set_option maxRecDepth 100000 in
theorem pa_8tff (s : List UInt8) (hs : s.length ≤ 9223372036854775807) (h1 : decide (cI s < 0) = false) (h2 : ((parseS (hdS s)).e == 3) = false) (h3 : ((parseS (hdS s)).e != 0) = true) (h4 : decide (cI (tlS s) < 0) = false) (h5 : ((parseS (hdS (tlS s))).e == 3) = false) (h6 : ((parseS (hdS (tlS s))).e != 0) = false) (h7 : decide (cI (tlS (tlS s)) < 0) = false) : Pure Tryd.prog J0 11 [.string ⟨⟨s⟩⟩] (vErr 3) :=
  pure_of bZ2_ok 10 [] [false, false, false, true, false, false, false, false, false, false, true] (l := [true = true, inS (tlS (tlS s)), decide (cI (tlS (tlS s)) < 0) = false, ([58] : List UInt8) = [58], inT (tlS s), false = false, ((0 : Int) ≤ 1 ∧ (1 : Int) < 2), ((parseS (hdS (tlS s))).e != 0) = false, ((parseS (hdS (tlS s))).e == 3) = false, inS (tlS s), decide (cI (tlS s) < 0) = false, ([58] : List UInt8) = [58], inT s, false = false, ((0 : Int) ≤ 0 ∧ (0 : Int) < 2), ((parseS (hdS s)).e != 0) = true, ((parseS (hdS s)).e == 3) = false, inS s, decide (cI s < 0) = false, ([58] : List UInt8) = [58], false = false]) (by kernel_rfl) ⟨rfl, (in_ok (tlS_len (tlS_len hs)) h7).1, h7, rfl, (in_ok (tlS_len hs) h4).2, rfl, ⟨by decide, by decide⟩, h6, h5, (in_ok (tlS_len hs) h4).1, h4, rfl, (in_ok hs h1).2, rfl, ⟨by decide, by decide⟩, h3, h2, (in_ok hs h1).1, h1, rfl, rfl, trivial⟩


set_option maxRecDepth 100000 in
theorem pa_5f (s : List UInt8) (hs : s.length ≤ 9223372036854775807) (h1 : decide (cI s < 0) = false) (h2 : ((parseS (hdS s)).e == 3) = false) (h3 : ((parseS (hdS s)).e != 0) = false) (h4 : decide (cI (tlS s) < 0) = true) (h5 : ((parseS (tlS s)).e == 3) = true) : Pure Tryd.prog J0 11 [.string ⟨⟨s⟩⟩] (vErr 3) :=
  pure_of bZ2_ok 10 [] [false, false, false, false, false, true, true] (l := [((parseS (tlS s)).e == 3) = true, decide (cI (tlS s) < 0) = true, ([58] : List UInt8) = [58], inT s, false = false, ((0 : Int) ≤ 0 ∧ (0 : Int) < 2), ((parseS (hdS s)).e != 0) = false, ((parseS (hdS s)).e == 3) = false, inS s, decide (cI s < 0) = false, ([58] : List UInt8) = [58], false = false]) (by kernel_rfl) ⟨h5, h4, rfl, (in_ok hs h1).2, rfl, ⟨by decide, by decide⟩, h3, h2, (in_ok hs h1).1, h1, rfl, rfl, trivial⟩


set_option maxRecDepth 100000 in
theorem pa_6ft (s : List UInt8) (hs : s.length ≤ 9223372036854775807) (h1 : decide (cI s < 0) = false) (h2 : ((parseS (hdS s)).e == 3) = false) (h3 : ((parseS (hdS s)).e != 0) = false) (h4 : decide (cI (tlS s) < 0) = true) (h5 : ((parseS (tlS s)).e == 3) = false) (h6 : ((parseS (tlS s)).e != 0) = true) : Pure Tryd.prog J0 11 [.string ⟨⟨s⟩⟩] (vErr (parseS (tlS s)).e) :=
  pure_of bZ2_ok 10 [] [false, false, false, false, false, true, false, true, true] (l := [((parseS (tlS s)).e != 0) = true, ((0 : Int) ≤ 1 ∧ (1 : Int) < 2), ((parseS (tlS s)).e != 0) = true, ((parseS (tlS s)).e == 3) = false, decide (cI (tlS s) < 0) = true, ([58] : List UInt8) = [58], inT s, false = false, ((0 : Int) ≤ 0 ∧ (0 : Int) < 2), ((parseS (hdS s)).e != 0) = false, ((parseS (hdS s)).e == 3) = false, inS s, decide (cI s < 0) = false, ([58] : List UInt8) = [58], false = false]) (by kernel_rfl) ⟨h6, ⟨by decide, by decide⟩, h6, h5, h4, rfl, (in_ok hs h1).2, rfl, ⟨by decide, by decide⟩, h3, h2, (in_ok hs h1).1, h1, rfl, rfl, trivial⟩


set_option maxRecDepth 100000 in
theorem pa_6ff (s : List UInt8) (hs : s.length ≤ 9223372036854775807) (h1 : decide (cI s < 0) = false) (h2 : ((parseS (hdS s)).e == 3) = false) (h3 : ((parseS (hdS s)).e != 0) = false) (h4 : decide (cI (tlS s) < 0) = true) (h5 : ((parseS (tlS s)).e == 3) = false) (h6 : ((parseS (tlS s)).e != 0) = false) : Pure Tryd.prog J0 11 [.string ⟨⟨s⟩⟩] (vArR (parseS (hdS s)).c (parseS (hdS s)).r (parseS (tlS s)).c (parseS (tlS s)).r) :=
  pure_of bZ2_ok 10 [] [false, false, false, false, false, true, false, false, false] (l := [((0 : Int) ≤ 1 ∧ (1 : Int) < 2), ((0 : Int) ≤ 0 ∧ (0 : Int) < 2), false = false, ((0 : Int) ≤ 1 ∧ (1 : Int) < 2), ((parseS (tlS s)).e != 0) = false, ((parseS (tlS s)).e == 3) = false, decide (cI (tlS s) < 0) = true, ([58] : List UInt8) = [58], inT s, false = false, ((0 : Int) ≤ 0 ∧ (0 : Int) < 2), ((parseS (hdS s)).e != 0) = false, ((parseS (hdS s)).e == 3) = false, inS s, decide (cI s < 0) = false, ([58] : List UInt8) = [58], false = false]) (by kernel_rfl) ⟨⟨by decide, by decide⟩, ⟨by decide, by decide⟩, rfl, ⟨by decide, by decide⟩, h6, h5, h4, rfl, (in_ok hs h1).2, rfl, ⟨by decide, by decide⟩, h3, h2, (in_ok hs h1).1, h1, rfl, rfl, trivial⟩


set_option maxRecDepth 100000 in
theorem pa_7f (s : List UInt8) (hs : s.length ≤ 9223372036854775807) (h1 : decide (cI s < 0) = false) (h2 : ((parseS (hdS s)).e == 3) = false) (h3 : ((parseS (hdS s)).e != 0) = false) (h4 : decide (cI (tlS s) < 0) = false) (h5 : ((parseS (hdS (tlS s))).e == 3) = true) : Pure Tryd.prog J0 11 [.string ⟨⟨s⟩⟩] (vErr 3) :=
  pure_of bZ2_ok 10 [] [false, false, false, false, false, false, true] (l := [((parseS (hdS (tlS s))).e == 3) = true, inS (tlS s), decide (cI (tlS s) < 0) = false, ([58] : List UInt8) = [58], inT s, false = false, ((0 : Int) ≤ 0 ∧ (0 : Int) < 2), ((parseS (hdS s)).e != 0) = false, ((parseS (hdS s)).e == 3) = false, inS s, decide (cI s < 0) = false, ([58] : List UInt8) = [58], false = false]) (by kernel_rfl) ⟨h5, (in_ok (tlS_len hs) h4).1, h4, rfl, (in_ok hs h1).2, rfl, ⟨by decide, by decide⟩, h3, h2, (in_ok hs h1).1, h1, rfl, rfl, trivial⟩


set_option maxRecDepth 100000 in
theorem pa_8ftt (s : List UInt8) (hs : s.length ≤ 9223372036854775807) (h1 : decide (cI s < 0) = false) (h2 : ((parseS (hdS s)).e == 3) = false) (h3 : ((parseS (hdS s)).e != 0) = false) (h4 : decide (cI (tlS s) < 0) = false) (h5 : ((parseS (hdS (tlS s))).e == 3) = false) (h6 : ((parseS (hdS (tlS s))).e != 0) = true) (h7 : decide (cI (tlS (tlS s)) < 0) = true) : Pure Tryd.prog J0 11 [.string ⟨⟨s⟩⟩] (vErr 3) :=
  pure_of bZ2_ok 10 [] [false, false, false, false, false, false, false, true, false, true, true] (l := [true = true, decide (cI (tlS (tlS s)) < 0) = true, ([58] : List UInt8) = [58], inT (tlS s), false = false, ((0 : Int) ≤ 1 ∧ (1 : Int) < 2), ((parseS (hdS (tlS s))).e != 0) = true, ((parseS (hdS (tlS s))).e == 3) = false, inS (tlS s), decide (cI (tlS s) < 0) = false, ([58] : List UInt8) = [58], inT s, false = false, ((0 : Int) ≤ 0 ∧ (0 : Int) < 2), ((parseS (hdS s)).e != 0) = false, ((parseS (hdS s)).e == 3) = false, inS s, decide (cI s < 0) = false, ([58] : List UInt8) = [58], false = false]) (by kernel_rfl) ⟨rfl, h7, rfl, (in_ok (tlS_len hs) h4).2, rfl, ⟨by decide, by decide⟩, h6, h5, (in_ok (tlS_len hs) h4).1, h4, rfl, (in_ok hs h1).2, rfl, ⟨by decide, by decide⟩, h3, h2, (in_ok hs h1).1, h1, rfl, rfl, trivial⟩


set_option maxRecDepth 100000 in
theorem pa_8ftf (s : List UInt8) (hs : s.length ≤ 9223372036854775807) (h1 : decide (cI s < 0) = false) (h2 : ((parseS (hdS s)).e == 3) = false) (h3 : ((parseS (hdS s)).e != 0) = false) (h4 : decide (cI (tlS s) < 0) = false) (h5 : ((parseS (hdS (tlS s))).e == 3) = false) (h6 : ((parseS (hdS (tlS s))).e != 0) = true) (h7 : decide (cI (tlS (tlS s)) < 0) = false) : Pure Tryd.prog J0 11 [.string ⟨⟨s⟩⟩] (vErr 3) :=
  pure_of bZ2_ok 10 [] [false, false, false, false, false, false, false, true, false, false, true] (l := [true = true, inS (tlS (tlS s)), decide (cI (tlS (tlS s)) < 0) = false, ([58] : List UInt8) = [58], inT (tlS s), false = false, ((0 : Int) ≤ 1 ∧ (1 : Int) < 2), ((parseS (hdS (tlS s))).e != 0) = true, ((parseS (hdS (tlS s))).e == 3) = false, inS (tlS s), decide (cI (tlS s) < 0) = false, ([58] : List UInt8) = [58], inT s, false = false, ((0 : Int) ≤ 0 ∧ (0 : Int) < 2), ((parseS (hdS s)).e != 0) = false, ((parseS (hdS s)).e == 3) = false, inS s, decide (cI s < 0) = false, ([58] : List UInt8) = [58], false = false]) (by kernel_rfl) ⟨rfl, (in_ok (tlS_len (tlS_len hs)) h7).1, h7, rfl, (in_ok (tlS_len hs) h4).2, rfl, ⟨by decide, by decide⟩, h6, h5, (in_ok (tlS_len hs) h4).1, h4, rfl, (in_ok hs h1).2, rfl, ⟨by decide, by decide⟩, h3, h2, (in_ok hs h1).1, h1, rfl, rfl, trivial⟩


set_option maxRecDepth 100000 in
theorem pa_8fft (s : List UInt8) (hs : s.length ≤ 9223372036854775807) (h1 : decide (cI s < 0) = false) (h2 : ((parseS (hdS s)).e == 3) = false) (h3 : ((parseS (hdS s)).e != 0) = false) (h4 : decide (cI (tlS s) < 0) = false) (h5 : ((parseS (hdS (tlS s))).e == 3) = false) (h6 : ((parseS (hdS (tlS s))).e != 0) = false) (h7 : decide (cI (tlS (tlS s)) < 0) = true) : Pure Tryd.prog J0 11 [.string ⟨⟨s⟩⟩] (vErr 3) :=
  pure_of bZ2_ok 10 [] [false, false, false, false, false, false, false, false, false, true, true] (l := [true = true, decide (cI (tlS (tlS s)) < 0) = true, ([58] : List UInt8) = [58], inT (tlS s), false = false, ((0 : Int) ≤ 1 ∧ (1 : Int) < 2), ((parseS (hdS (tlS s))).e != 0) = false, ((parseS (hdS (tlS s))).e == 3) = false, inS (tlS s), decide (cI (tlS s) < 0) = false, ([58] : List UInt8) = [58], inT s, false = false, ((0 : Int) ≤ 0 ∧ (0 : Int) < 2), ((parseS (hdS s)).e != 0) = false, ((parseS (hdS s)).e == 3) = false, inS s, decide (cI s < 0) = false, ([58] : List UInt8) = [58], false = false]) (by kernel_rfl) ⟨rfl, h7, rfl, (in_ok (tlS_len hs) h4).2, rfl, ⟨by decide, by decide⟩, h6, h5, (in_ok (tlS_len hs) h4).1, h4, rfl, (in_ok hs h1).2, rfl, ⟨by decide, by decide⟩, h3, h2, (in_ok hs h1).1, h1, rfl, rfl, trivial⟩


set_option maxRecDepth 100000 in
theorem pa_8fff (s : List UInt8) (hs : s.length ≤ 9223372036854775807) (h1 : decide (cI s < 0) = false) (h2 : ((parseS (hdS s)).e == 3) = false) (h3 : ((parseS (hdS s)).e != 0) = false) (h4 : decide (cI (tlS s) < 0) = false) (h5 : ((parseS (hdS (tlS s))).e == 3) = false) (h6 : ((parseS (hdS (tlS s))).e != 0) = false) (h7 : decide (cI (tlS (tlS s)) < 0) = false) : Pure Tryd.prog J0 11 [.string ⟨⟨s⟩⟩] (vErr 3) :=
  pure_of bZ2_ok 10 [] [false, false, false, false, false, false, false, false, false, false, true] (l := [true = true, inS (tlS (tlS s)), decide (cI (tlS (tlS s)) < 0) = false, ([58] : List UInt8) = [58], inT (tlS s), false = false, ((0 : Int) ≤ 1 ∧ (1 : Int) < 2), ((parseS (hdS (tlS s))).e != 0) = false, ((parseS (hdS (tlS s))).e == 3) = false, inS (tlS s), decide (cI (tlS s) < 0) = false, ([58] : List UInt8) = [58], inT s, false = false, ((0 : Int) ≤ 0 ∧ (0 : Int) < 2), ((parseS (hdS s)).e != 0) = false, ((parseS (hdS s)).e == 3) = false, inS s, decide (cI s < 0) = false, ([58] : List UInt8) = [58], false = false]) (by kernel_rfl) ⟨rfl, (in_ok (tlS_len (tlS_len hs)) h7).1, h7, rfl, (in_ok (tlS_len hs) h4).2, rfl, ⟨by decide, by decide⟩, h6, h5, (in_ok (tlS_len hs) h4).1, h4, rfl, (in_ok hs h1).2, rfl, ⟨by decide, by decide⟩, h3, h2, (in_ok hs h1).1, h1, rfl, rfl, trivial⟩


/-- What ParseArea answers. -/
def pareaV (s : List UInt8) : Value :=
  if decide (cI s < 0) then (if (parseS s).e == 3 then vErr 3 else if (parseS s).e != 0 then vErr (parseS s).e else vArR (parseS s).c (parseS s).r (parseS s).c (parseS s).r)
  else if (parseS (hdS s)).e == 3 then vErr 3
  else if decide (cI (tlS s) < 0) then (if (parseS (tlS s)).e == 3 then vErr 3 else if (parseS (tlS s)).e != 0 then vErr (parseS (tlS s)).e else if (parseS (hdS s)).e != 0 then vErr (parseS (hdS s)).e
    else vArR (parseS (hdS s)).c (parseS (hdS s)).r (parseS (tlS s)).c (parseS (tlS s)).r)
  else vErr 3

theorem parea_pure (s : List UInt8) (hs : s.length ≤ 9223372036854775807) : Pure Tryd.prog J0 11 [.string ⟨⟨s⟩⟩] (pareaV s) := by
  unfold pareaV
  cases h1 : decide (cI s < 0)
  · simp only [Bool.false_eq_true, if_false]
    cases h2 : ((parseS (hdS s)).e == 3)
    · simp only [Bool.false_eq_true, if_false]
      cases h3 : ((parseS (hdS s)).e != 0)
      · simp only [Bool.false_eq_true, if_false]
        cases h4 : decide (cI (tlS s) < 0)
        · simp only [Bool.false_eq_true, if_false]
          cases h5 : ((parseS (hdS (tlS s))).e == 3)
          · cases h6 : ((parseS (hdS (tlS s))).e != 0) <;> cases h7 : decide (cI (tlS (tlS s)) < 0)
            · exact pa_8fff s hs h1 h2 h3 h4 h5 h6 h7
            · exact pa_8fft s hs h1 h2 h3 h4 h5 h6 h7
            · exact pa_8ftf s hs h1 h2 h3 h4 h5 h6 h7
            · exact pa_8ftt s hs h1 h2 h3 h4 h5 h6 h7
          · exact pa_7f s hs h1 h2 h3 h4 h5
        · simp only [if_true]
          cases h5 : ((parseS (tlS s)).e == 3)
          · simp only [Bool.false_eq_true, if_false]
            cases h6 : ((parseS (tlS s)).e != 0)
            · simp only [Bool.false_eq_true, if_false]
              exact pa_6ff s hs h1 h2 h3 h4 h5 h6
            · simp only [if_true]
              exact pa_6ft s hs h1 h2 h3 h4 h5 h6
          · simp only [if_true]
            exact pa_5f s hs h1 h2 h3 h4 h5
      · simp only [if_true]
        cases h4 : decide (cI (tlS s) < 0)
        · simp only [Bool.false_eq_true, if_false]
          cases h5 : ((parseS (hdS (tlS s))).e == 3)
          · cases h6 : ((parseS (hdS (tlS s))).e != 0) <;> cases h7 : decide (cI (tlS (tlS s)) < 0)
            · exact pa_8tff s hs h1 h2 h3 h4 h5 h6 h7
            · exact pa_8tft s hs h1 h2 h3 h4 h5 h6 h7
            · exact pa_8ttf s hs h1 h2 h3 h4 h5 h6 h7
            · exact pa_8ttt s hs h1 h2 h3 h4 h5 h6 h7
          · exact pa_7t s hs h1 h2 h3 h4 h5
        · simp only [if_true]
          cases h5 : ((parseS (tlS s)).e == 3)
          · simp only [Bool.false_eq_true, if_false]
            cases h6 : ((parseS (tlS s)).e != 0)
            · simp only [Bool.false_eq_true, if_false]
              exact pa_6tf s hs h1 h2 h3 h4 h5 h6
            · simp only [if_true]
              exact pa_6tt s hs h1 h2 h3 h4 h5 h6
          · simp only [if_true]
            exact pa_5t s hs h1 h2 h3 h4 h5
    · simp only [if_true]
      exact pa_4 s hs h1 h2
  · simp only [if_true]
    cases h2 : ((parseS s).e == 3)
    · simp only [Bool.false_eq_true, if_false]
      cases h3 : ((parseS s).e != 0)
      · simp only [Bool.false_eq_true, if_false]
        exact pa_3 s hs h1 h2 h3
      · simp only [if_true]
        exact pa_2 s hs h1 h2 h3
    · simp only [if_true]
      exact pa_1 s hs h1 h2

end Go.Proofs.YthclpocignpfhaaDoor
