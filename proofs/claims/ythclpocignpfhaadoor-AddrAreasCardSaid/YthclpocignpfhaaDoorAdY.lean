/-
  Layer 10 (addr): contracts on areas, the reference's too.
-/
import Derived.Test.YthclpocignpfhaaDoorAdW
namespace Go.Proofs.YthclpocignpfhaaDoor
open Go Go.RowKit Ev AdS

theorem rvalidArea_pure (c r d s : Int) : Pure Tryd.prog J0 16 [vArea c r d s] (.bool (areaB c r d s)) :=
  pure_of bP_ok 3 [] [] (l := []) (by kernel_rfl) trivial
theorem specRValidArea_ok (args : List Value) (v : Value) (l : List Prop) (h : specValidArea args = some (v, l)) (_ : allP l) : Pure Tryd.prog J0 16 args v := by
  unfold specValidArea at h
  split at h
  · cases h; exact rvalidArea_pure _ _ _ _
  · cases h

def arOk (c r d s : Int) : Bool := validB c r && validB d s
def arE (c r d s : Int) : Int := if arOk c r d s then 0 else 20
def vArR (c r d s : Int) : Value := .tuple ⟨[vArea (mz (arOk c r d s) (minG c d)) (mz (arOk c r d s) (minG r s)) (mz (arOk c r d s) (maxG c d)) (mz (arOk c r d s) (maxG r s)), vi (arE c r d s)]⟩

theorem ar_not {c r d s : Int} {b : Bool} (h : arOk c r d s = b) : (!validB c r || !validB d s) = !b := by
  rw [← h]; unfold arOk; cases validB c r <;> cases validB d s <;> rfl

theorem area_pure (c r d s : Int) : Pure Tryd.prog J0 21 [vCell c r, vCell d s] (vArR c r d s) := by
  unfold vArR arE
  cases h : arOk c r d s
  · exact pure_of bP_ok 3 [] [true] (l := [(!validB c r || !validB d s) = true]) (by kernel_rfl) ⟨ar_not h, trivial⟩
  · exact pure_of bP_ok 3 [] [false] (l := [(!validB c r || !validB d s) = false]) (by kernel_rfl) ⟨ar_not h, trivial⟩
theorem rarea_pure (c r d s : Int) : Pure Tryd.prog J0 22 [vCell c r, vCell d s] (vArR c r d s) := by
  unfold vArR arE
  cases h : arOk c r d s
  · exact pure_of bP_ok 3 [] [true] (l := [(!validB c r || !validB d s) = true]) (by kernel_rfl) ⟨ar_not h, trivial⟩
  · exact pure_of bP_ok 3 [] [false] (l := [(!validB c r || !validB d s) = false]) (by kernel_rfl) ⟨ar_not h, trivial⟩

def specArea : List Value → Option (Value × List Prop)
  | [.agg ⟨[.int .i64 c, .int .i64 r]⟩, .agg ⟨[.int .i64 d, .int .i64 s]⟩] =>
    some (.tuple ⟨[vArea (mz (arOk c r d s) (minG c d)) (mz (arOk c r d s) (minG r s)) (mz (arOk c r d s) (maxG c d)) (mz (arOk c r d s) (maxG r s)), .int .i64 (arE c r d s)]⟩, [])
  | _ => none
theorem specArea_ok (args : List Value) (v : Value) (l : List Prop) (h : specArea args = some (v, l)) (_ : allP l) : Pure Tryd.prog J0 21 args v := by
  unfold specArea at h
  split at h
  · cases h; exact area_pure _ _ _ _
  · cases h
theorem specRArea_ok (args : List Value) (v : Value) (l : List Prop) (h : specArea args = some (v, l)) (_ : allP l) : Pure Tryd.prog J0 22 args v := by
  unfold specArea at h
  split at h
  · cases h; exact rarea_pure _ _ _ _
  · cases h

noncomputable def tabY1 : Tab := tabAdd 16 specValidArea (tabAdd 21 specArea (tabAdd 22 specArea tabP))
theorem tabY1_ok : PcOk Tryd.prog J0 tabY1 := tabAdd_ok specRValidArea_ok (tabAdd_ok specArea_ok (tabAdd_ok specRArea_ok tabP_ok))
noncomputable def bY1 : Base := ⟨Tryd.prog, J0, false, tabY1, mtab0, 200⟩
theorem bY1_ok : BaseOk bY1 := ⟨progOk, tabY1_ok, mtab0_ok _ _⟩

theorem rin_pure (c r d s x y : Int) : Pure Tryd.prog J0 18 [vArea c r d s, vCell x y] (.bool (inB c r d s x y)) :=
  pure_of bY1_ok 3 [] [] (l := []) (by kernel_rfl) trivial
theorem specRIn_ok (args : List Value) (v : Value) (l : List Prop) (h : specIn args = some (v, l)) (_ : allP l) : Pure Tryd.prog J0 18 args v := by
  unfold specIn at h
  split at h
  · cases h; exact rin_pure _ _ _ _ _ _
  · cases h

theorem rsize_pure (c r d s : Int) : Pure Tryd.prog J0 20 [vArea c r d s] (vi (sizeI c r d s)) := by
  unfold sizeI
  cases h : areaB c r d s
  · exact pure_of bY1_ok 3 [] [true] (l := [(!areaB c r d s) = true]) (by kernel_rfl) (by simp [allP, h])
  · have hv := areaB_iff.1 h
    have hv1 := validB_iff.1 hv.1
    have hv2 := validB_iff.1 hv.2.1
    have hm := mul_bound (x := d - c + 1) (y := s - r + 1) (by omega) (by omega) (by omega) (by omega)
    have e : (d - c + 1) * (s - r + 1) = IntKind.i64.wrap (IntKind.i64.wrap (IntKind.i64.wrap (d - c) + 1) * IntKind.i64.wrap (IntKind.i64.wrap (s - r) + 1)) := by
      rw [wrapS (n := d - c) (by omega) (by omega), wrapS (n := s - r) (by omega) (by omega), wrapS (n := d - c + 1) (by omega) (by omega), wrapS (n := s - r + 1) (by omega) (by omega)]
      generalize (d - c + 1) * (s - r + 1) = m at *
      exact (wrapS (by omega) (by omega)).symm
    rw [if_pos rfl, e]
    exact pure_of bY1_ok 3 [] [false] (l := [(!areaB c r d s) = false]) (by kernel_rfl) (by simp [allP, h])
theorem specRSize_ok (args : List Value) (v : Value) (l : List Prop) (h : specSize args = some (v, l)) (_ : allP l) : Pure Tryd.prog J0 20 args v := by
  unfold specSize at h
  split at h
  · cases h; exact rsize_pure _ _ _ _
  · cases h

theorem rmeet_pure (c r d s e f g h : Int) : Pure Tryd.prog J0 26 [vArea c r d s, vArea e f g h] (meetV c r d s e f g h) := by
  unfold meetV
  cases hm : meetB c r d s e f g h
  · exact pure_of bY1_ok 3 [] [true] (l := [(!areaB c r d s || !areaB e f g h || !areaB (maxG c e) (maxG r f) (minG d g) (minG s h)) = true]) (by kernel_rfl) (by
      unfold meetB at hm
      revert hm
      generalize areaB c r d s = p
      generalize areaB e f g h = q
      generalize areaB (maxG c e) (maxG r f) (minG d g) (minG s h) = t
      cases p <;> cases q <;> cases t <;> simp [allP])
  · exact pure_of bY1_ok 3 [] [false] (l := [(!areaB c r d s || !areaB e f g h || !areaB (maxG c e) (maxG r f) (minG d g) (minG s h)) = false]) (by kernel_rfl) (by
      unfold meetB at hm
      revert hm
      generalize areaB c r d s = p
      generalize areaB e f g h = q
      generalize areaB (maxG c e) (maxG r f) (minG d g) (minG s h) = t
      cases p <;> cases q <;> cases t <;> simp [allP])
theorem specRMeet_ok (args : List Value) (v : Value) (l : List Prop) (h : specMeet args = some (v, l)) (_ : allP l) : Pure Tryd.prog J0 26 args v := by
  unfold specMeet at h
  split at h
  · cases h; exact rmeet_pure _ _ _ _ _ _ _ _
  · cases h

/-- An area's text. -/
def arText (c r d s : Int) : List UInt8 := if areaB c r d s then (if c == d && (r == s && true) then textS c r false false else textS c r false false ++ [58] ++ textS d s false false) else []
def arTE (c r d s : Int) : Int := if areaB c r d s then 0 else 20
def vArT (c r d s : Int) : Value := .tuple ⟨[.string ⟨⟨arText c r d s⟩⟩, vi (arTE c r d s)]⟩

theorem textS_len (c r : Int) (p q : Bool) : (textS c r p q).length ≤ 6000 := by
  unfold textS
  split
  · rename_i h
    obtain ⟨h1, h2, _⟩ := text_len h
    unfold textL
    cases p <;> cases q <;> simp <;> omega
  · simp

theorem areaText_pure (c r d s : Int) : Pure Tryd.prog J0 23 [vArea c r d s] (vArT c r d s) := by
  have g1 := textS_len c r false false
  have g2 := textS_len d s false false
  unfold vArT arText arTE
  cases h : areaB c r d s
  · exact pure_of bY1_ok 3 [] [true] (l := [(!areaB c r d s) = true]) (by kernel_rfl) ⟨by rw [h]; rfl, trivial⟩
  · cases he : (c == d && (r == s && true))
    · exact pure_of bY1_ok 3 [] [false, false] (l := [(textS c r false false ++ [58]).length + (textS d s false false).length ≤ 9223372036854775807, (textS c r false false).length + 1 ≤ 9223372036854775807, (c == d && (r == s && true)) = false, (!areaB c r d s) = false]) (by kernel_rfl)
        ⟨by rw [List.length_append]; simp; omega, by omega, he, by rw [h]; rfl, trivial⟩
    · exact pure_of bY1_ok 3 [] [false, true] (l := [(c == d && (r == s && true)) = true, (!areaB c r d s) = false]) (by kernel_rfl) ⟨he, by rw [h]; rfl, trivial⟩
theorem rareaText_pure (c r d s : Int) : Pure Tryd.prog J0 24 [vArea c r d s] (vArT c r d s) := by
  have g1 := textS_len c r false false
  have g2 := textS_len d s false false
  unfold vArT arText arTE
  cases h : areaB c r d s
  · exact pure_of bY1_ok 3 [] [true] (l := [(!areaB c r d s) = true]) (by kernel_rfl) ⟨by rw [h]; rfl, trivial⟩
  · cases he : (c == d && (r == s && true))
    · exact pure_of bY1_ok 3 [] [false, false] (l := [(textS c r false false ++ [58]).length + (textS d s false false).length ≤ 9223372036854775807, (textS c r false false).length + 1 ≤ 9223372036854775807, (c == d && (r == s && true)) = false, (!areaB c r d s) = false]) (by kernel_rfl)
        ⟨by rw [List.length_append]; simp; omega, by omega, he, by rw [h]; rfl, trivial⟩
    · exact pure_of bY1_ok 3 [] [false, true] (l := [(c == d && (r == s && true)) = true, (!areaB c r d s) = false]) (by kernel_rfl) ⟨he, by rw [h]; rfl, trivial⟩

def specAreaText : List Value → Option (Value × List Prop)
  | [.agg ⟨[.int .i64 c, .int .i64 r, .int .i64 d, .int .i64 s]⟩] => some (.tuple ⟨[.string ⟨⟨arText c r d s⟩⟩, .int .i64 (arTE c r d s)]⟩, [])
  | _ => none
theorem specAreaText_ok (args : List Value) (v : Value) (l : List Prop) (h : specAreaText args = some (v, l)) (_ : allP l) : Pure Tryd.prog J0 23 args v := by
  unfold specAreaText at h
  split at h
  · cases h; exact areaText_pure _ _ _ _
  · cases h
theorem specRAreaText_ok (args : List Value) (v : Value) (l : List Prop) (h : specAreaText args = some (v, l)) (_ : allP l) : Pure Tryd.prog J0 24 args v := by
  unfold specAreaText at h
  split at h
  · cases h; exact rareaText_pure _ _ _ _
  · cases h

noncomputable def tabY2 : Tab := tabAdd 18 specIn (tabAdd 20 specSize (tabAdd 26 specMeet (tabAdd 23 specAreaText (tabAdd 24 specAreaText tabY1))))
theorem tabY2_ok : PcOk Tryd.prog J0 tabY2 := tabAdd_ok specRIn_ok (tabAdd_ok specRSize_ok (tabAdd_ok specRMeet_ok (tabAdd_ok specAreaText_ok (tabAdd_ok specRAreaText_ok tabY1_ok))))
noncomputable def bY2 : Base := ⟨Tryd.prog, J0, false, tabY2, mtab0, 200⟩
theorem bY2_ok : BaseOk bY2 := ⟨progOk, tabY2_ok, mtab0_ok _ _⟩

end Go.Proofs.YthclpocignpfhaaDoor
