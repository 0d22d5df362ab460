/-
  Layer 10 (addr): AddrBack answers true. (The ways through its tests are printed by wip/mkback.py.)
-/
import Derived.Test.YthclpocignpfhaaDoorAdX
namespace Go.Proofs.YthclpocignpfhaaDoor
open Go Go.RowKit Ev AdS

def kA (s : List UInt8) : Bool :=
  ((((textE (parseS s).c (parseS s).r != 0 || (parseS (textS (parseS s).c (parseS s).r (parseS s).p (parseS s).q)).e != 0) ||
    !((parseS (textS (parseS s).c (parseS s).r (parseS s).p (parseS s).q)).c == (parseS s).c && ((parseS (textS (parseS s).c (parseS s).r (parseS s).p (parseS s).q)).r == (parseS s).r && true) &&
      ((parseS (textS (parseS s).c (parseS s).r (parseS s).p (parseS s).q)).p == (parseS s).p && ((parseS (textS (parseS s).c (parseS s).r (parseS s).p (parseS s).q)).q == (parseS s).q && true)))) ||
    ((textS (parseS s).c (parseS s).r (parseS s).p (parseS s).q).length : Int) != (s.length : Int)) || (preS s : Int) != (s.length : Int))
def kB (c r : Int) (p q : Bool) : Bool :=
  ((parseS (textS c r p q)).e != 0 || !((parseS (textS c r p q)).c == c && ((parseS (textS c r p q)).r == r && true) && ((parseS (textS c r p q)).p == p && ((parseS (textS c r p q)).q == q && true))))
def kC (a b d e : Int) : Bool :=
  ((pareaA (arText a b d e)).e != 0 || !((pareaA (arText a b d e)).c == a && ((pareaA (arText a b d e)).r == b && true) && ((pareaA (arText a b d e)).d == d && ((pareaA (arText a b d e)).s == e && true) && true)))
def kD (c r : Int) (p q : Bool) (x y : Int) : Bool := ((!shOk c r p q x y || x == -9223372036854775808) || y == -9223372036854775808)
def sh2 (c r : Int) (p q : Bool) (x y : Int) : Bool := shOk (mz (shOk c r p q x y) (movI c x p)) (mz (shOk c r p q x y) (movI r y q)) (shOk c r p q x y && p) (shOk c r p q x y && q) (IntKind.i64.wrap (0 - x)) (IntKind.i64.wrap (0 - y))
def kH (c r : Int) (p q : Bool) (x y : Int) : Bool :=
  ((true && sh2 c r p q x y) && (mz (sh2 c r p q x y) (movI (mz (shOk c r p q x y) (movI c x p)) (IntKind.i64.wrap (0 - x)) (shOk c r p q x y && p)) == c &&
    (mz (sh2 c r p q x y) (movI (mz (shOk c r p q x y) (movI r y q)) (IntKind.i64.wrap (0 - y)) (shOk c r p q x y && q)) == r && true) && ((sh2 c r p q x y && (shOk c r p q x y && p)) == p && ((sh2 c r p q x y && (shOk c r p q x y && q)) == q && true))))

theorem kA_ok {s : List UInt8} (h : (parseS s).e = 0) : kA s = false := by
  obtain ⟨h1, h2, hv⟩ := text_back h
  unfold kA
  rw [h1, h2, parse_text hv]
  have : textE (parseS s).c (parseS s).r = 0 := by unfold textE; rw [if_pos hv]
  rw [this]
  simp
theorem kB_ok {c r : Int} {p q : Bool} (hv : validB c r = true) : kB c r p q = false := by
  unfold kB
  rw [parse_text hv]
  simp
theorem kC_ok {a b d e : Int} (h : areaB a b d e = true) : kC a b d e = false := by
  unfold kC
  rw [(area_back h).1]
  simp
theorem kH_ok {c r : Int} {p q : Bool} {x y : Int} (h : kD c r p q x y = false) : kH c r p q x y = true := by
  unfold kD at h
  simp only [Bool.or_eq_false_iff, Bool.not_eq_false'] at h
  obtain ⟨s1, s2, s3⟩ := shift_back h.1.1
  unfold kH sh2
  rw [h.1.1]
  simp only [mz, if_true, Bool.true_and]
  rw [s1, s2, s3]
  simp

theorem textE_iff (c r : Int) : (textE c r == 0) = validB c r := by
  unfold textE
  cases validB c r <;> rfl
theorem arTE_iff (c r d s : Int) : (arTE c r d s == 0) = areaB c r d s := by
  unfold arTE
  cases areaB c r d s <;> rfl
theorem kV (c r : Int) : (!((textE c r == 0) == validB c r)) = false := by
  rw [textE_iff]
  cases validB c r <;> rfl


set_option maxRecDepth 100000 in
theorem ab_tttt (s : List UInt8) (hs : s.length ≤ 9223372036854775807) (c r : Int) (p q : Bool) (a b d e x y : Int) (ha : ((parseS s).e == 0) = true) (hb : (textE c r == 0) = true) (hc : (arTE a b d e == 0) = true) (hd : kD c r p q x y = true) :
    Pure Tryd.prog J0 5 [.string ⟨⟨s⟩⟩, vRef c r p q, vArea a b d e, vi x, vi y] (.bool true) :=
  pure_of bZ3_ok 10 [] [true, false, false, true, false, true, false, true] (l := [kD c r p q x y = true, kC a b d e = false, (arText a b d e).length ≤ 9223372036854775807, (arTE a b d e == 0) = true, kB c r p q = false, (textE c r == 0) = true, (!((textE c r == 0) == validB c r)) = false, kA s = false, s.length ≤ 9223372036854775807, ((parseS s).e == 0) = true]) (by kernel_rfl) ⟨hd, kC_ok (by rw [← arTE_iff]; exact hc), (area_back (by rw [← arTE_iff]; exact hc)).2, hc, kB_ok (by rw [← textE_iff]; exact hb), hb, kV c r, kA_ok (eq_of_beq ha), hs, ha, trivial⟩


set_option maxRecDepth 100000 in
theorem ab_tttf (s : List UInt8) (hs : s.length ≤ 9223372036854775807) (c r : Int) (p q : Bool) (a b d e x y : Int) (ha : ((parseS s).e == 0) = true) (hb : (textE c r == 0) = true) (hc : (arTE a b d e == 0) = true) (hd : kD c r p q x y = false) :
    Pure Tryd.prog J0 5 [.string ⟨⟨s⟩⟩, vRef c r p q, vArea a b d e, vi x, vi y] (.bool (kH c r p q x y)) :=
  pure_of bZ3_ok 10 [] [true, false, false, true, false, true, false, false] (l := [kD c r p q x y = false, kC a b d e = false, (arText a b d e).length ≤ 9223372036854775807, (arTE a b d e == 0) = true, kB c r p q = false, (textE c r == 0) = true, (!((textE c r == 0) == validB c r)) = false, kA s = false, s.length ≤ 9223372036854775807, ((parseS s).e == 0) = true]) (by kernel_rfl) ⟨hd, kC_ok (by rw [← arTE_iff]; exact hc), (area_back (by rw [← arTE_iff]; exact hc)).2, hc, kB_ok (by rw [← textE_iff]; exact hb), hb, kV c r, kA_ok (eq_of_beq ha), hs, ha, trivial⟩


set_option maxRecDepth 100000 in
theorem ab_ttft (s : List UInt8) (hs : s.length ≤ 9223372036854775807) (c r : Int) (p q : Bool) (a b d e x y : Int) (ha : ((parseS s).e == 0) = true) (hb : (textE c r == 0) = true) (hc : (arTE a b d e == 0) = false) (hd : kD c r p q x y = true) :
    Pure Tryd.prog J0 5 [.string ⟨⟨s⟩⟩, vRef c r p q, vArea a b d e, vi x, vi y] (.bool true) :=
  pure_of bZ3_ok 10 [] [true, false, false, true, false, false, true] (l := [kD c r p q x y = true, (arTE a b d e == 0) = false, kB c r p q = false, (textE c r == 0) = true, (!((textE c r == 0) == validB c r)) = false, kA s = false, s.length ≤ 9223372036854775807, ((parseS s).e == 0) = true]) (by kernel_rfl) ⟨hd, hc, kB_ok (by rw [← textE_iff]; exact hb), hb, kV c r, kA_ok (eq_of_beq ha), hs, ha, trivial⟩


set_option maxRecDepth 100000 in
theorem ab_ttff (s : List UInt8) (hs : s.length ≤ 9223372036854775807) (c r : Int) (p q : Bool) (a b d e x y : Int) (ha : ((parseS s).e == 0) = true) (hb : (textE c r == 0) = true) (hc : (arTE a b d e == 0) = false) (hd : kD c r p q x y = false) :
    Pure Tryd.prog J0 5 [.string ⟨⟨s⟩⟩, vRef c r p q, vArea a b d e, vi x, vi y] (.bool (kH c r p q x y)) :=
  pure_of bZ3_ok 10 [] [true, false, false, true, false, false, false] (l := [kD c r p q x y = false, (arTE a b d e == 0) = false, kB c r p q = false, (textE c r == 0) = true, (!((textE c r == 0) == validB c r)) = false, kA s = false, s.length ≤ 9223372036854775807, ((parseS s).e == 0) = true]) (by kernel_rfl) ⟨hd, hc, kB_ok (by rw [← textE_iff]; exact hb), hb, kV c r, kA_ok (eq_of_beq ha), hs, ha, trivial⟩


set_option maxRecDepth 100000 in
theorem ab_tftt (s : List UInt8) (hs : s.length ≤ 9223372036854775807) (c r : Int) (p q : Bool) (a b d e x y : Int) (ha : ((parseS s).e == 0) = true) (hb : (textE c r == 0) = false) (hc : (arTE a b d e == 0) = true) (hd : kD c r p q x y = true) :
    Pure Tryd.prog J0 5 [.string ⟨⟨s⟩⟩, vRef c r p q, vArea a b d e, vi x, vi y] (.bool true) :=
  pure_of bZ3_ok 10 [] [true, false, false, false, true, false, true] (l := [kD c r p q x y = true, kC a b d e = false, (arText a b d e).length ≤ 9223372036854775807, (arTE a b d e == 0) = true, (textE c r == 0) = false, (!((textE c r == 0) == validB c r)) = false, kA s = false, s.length ≤ 9223372036854775807, ((parseS s).e == 0) = true]) (by kernel_rfl) ⟨hd, kC_ok (by rw [← arTE_iff]; exact hc), (area_back (by rw [← arTE_iff]; exact hc)).2, hc, hb, kV c r, kA_ok (eq_of_beq ha), hs, ha, trivial⟩


set_option maxRecDepth 100000 in
theorem ab_tftf (s : List UInt8) (hs : s.length ≤ 9223372036854775807) (c r : Int) (p q : Bool) (a b d e x y : Int) (ha : ((parseS s).e == 0) = true) (hb : (textE c r == 0) = false) (hc : (arTE a b d e == 0) = true) (hd : kD c r p q x y = false) :
    Pure Tryd.prog J0 5 [.string ⟨⟨s⟩⟩, vRef c r p q, vArea a b d e, vi x, vi y] (.bool (kH c r p q x y)) :=
  pure_of bZ3_ok 10 [] [true, false, false, false, true, false, false] (l := [kD c r p q x y = false, kC a b d e = false, (arText a b d e).length ≤ 9223372036854775807, (arTE a b d e == 0) = true, (textE c r == 0) = false, (!((textE c r == 0) == validB c r)) = false, kA s = false, s.length ≤ 9223372036854775807, ((parseS s).e == 0) = true]) (by kernel_rfl) ⟨hd, kC_ok (by rw [← arTE_iff]; exact hc), (area_back (by rw [← arTE_iff]; exact hc)).2, hc, hb, kV c r, kA_ok (eq_of_beq ha), hs, ha, trivial⟩


set_option maxRecDepth 100000 in
theorem ab_tfft (s : List UInt8) (hs : s.length ≤ 9223372036854775807) (c r : Int) (p q : Bool) (a b d e x y : Int) (ha : ((parseS s).e == 0) = true) (hb : (textE c r == 0) = false) (hc : (arTE a b d e == 0) = false) (hd : kD c r p q x y = true) :
    Pure Tryd.prog J0 5 [.string ⟨⟨s⟩⟩, vRef c r p q, vArea a b d e, vi x, vi y] (.bool true) :=
  pure_of bZ3_ok 10 [] [true, false, false, false, false, true] (l := [kD c r p q x y = true, (arTE a b d e == 0) = false, (textE c r == 0) = false, (!((textE c r == 0) == validB c r)) = false, kA s = false, s.length ≤ 9223372036854775807, ((parseS s).e == 0) = true]) (by kernel_rfl) ⟨hd, hc, hb, kV c r, kA_ok (eq_of_beq ha), hs, ha, trivial⟩


set_option maxRecDepth 100000 in
theorem ab_tfff (s : List UInt8) (hs : s.length ≤ 9223372036854775807) (c r : Int) (p q : Bool) (a b d e x y : Int) (ha : ((parseS s).e == 0) = true) (hb : (textE c r == 0) = false) (hc : (arTE a b d e == 0) = false) (hd : kD c r p q x y = false) :
    Pure Tryd.prog J0 5 [.string ⟨⟨s⟩⟩, vRef c r p q, vArea a b d e, vi x, vi y] (.bool (kH c r p q x y)) :=
  pure_of bZ3_ok 10 [] [true, false, false, false, false, false] (l := [kD c r p q x y = false, (arTE a b d e == 0) = false, (textE c r == 0) = false, (!((textE c r == 0) == validB c r)) = false, kA s = false, s.length ≤ 9223372036854775807, ((parseS s).e == 0) = true]) (by kernel_rfl) ⟨hd, hc, hb, kV c r, kA_ok (eq_of_beq ha), hs, ha, trivial⟩


set_option maxRecDepth 100000 in
theorem ab_fttt (s : List UInt8) (_hs : s.length ≤ 9223372036854775807) (c r : Int) (p q : Bool) (a b d e x y : Int) (ha : ((parseS s).e == 0) = false) (hb : (textE c r == 0) = true) (hc : (arTE a b d e == 0) = true) (hd : kD c r p q x y = true) :
    Pure Tryd.prog J0 5 [.string ⟨⟨s⟩⟩, vRef c r p q, vArea a b d e, vi x, vi y] (.bool true) :=
  pure_of bZ3_ok 10 [] [false, false, true, false, true, false, true] (l := [kD c r p q x y = true, kC a b d e = false, (arText a b d e).length ≤ 9223372036854775807, (arTE a b d e == 0) = true, kB c r p q = false, (textE c r == 0) = true, (!((textE c r == 0) == validB c r)) = false, ((parseS s).e == 0) = false]) (by kernel_rfl) ⟨hd, kC_ok (by rw [← arTE_iff]; exact hc), (area_back (by rw [← arTE_iff]; exact hc)).2, hc, kB_ok (by rw [← textE_iff]; exact hb), hb, kV c r, ha, trivial⟩


set_option maxRecDepth 100000 in
theorem ab_fttf (s : List UInt8) (_hs : s.length ≤ 9223372036854775807) (c r : Int) (p q : Bool) (a b d e x y : Int) (ha : ((parseS s).e == 0) = false) (hb : (textE c r == 0) = true) (hc : (arTE a b d e == 0) = true) (hd : kD c r p q x y = false) :
    Pure Tryd.prog J0 5 [.string ⟨⟨s⟩⟩, vRef c r p q, vArea a b d e, vi x, vi y] (.bool (kH c r p q x y)) :=
  pure_of bZ3_ok 10 [] [false, false, true, false, true, false, false] (l := [kD c r p q x y = false, kC a b d e = false, (arText a b d e).length ≤ 9223372036854775807, (arTE a b d e == 0) = true, kB c r p q = false, (textE c r == 0) = true, (!((textE c r == 0) == validB c r)) = false, ((parseS s).e == 0) = false]) (by kernel_rfl) ⟨hd, kC_ok (by rw [← arTE_iff]; exact hc), (area_back (by rw [← arTE_iff]; exact hc)).2, hc, kB_ok (by rw [← textE_iff]; exact hb), hb, kV c r, ha, trivial⟩


set_option maxRecDepth 100000 in
theorem ab_ftft (s : List UInt8) (_hs : s.length ≤ 9223372036854775807) (c r : Int) (p q : Bool) (a b d e x y : Int) (ha : ((parseS s).e == 0) = false) (hb : (textE c r == 0) = true) (hc : (arTE a b d e == 0) = false) (hd : kD c r p q x y = true) :
    Pure Tryd.prog J0 5 [.string ⟨⟨s⟩⟩, vRef c r p q, vArea a b d e, vi x, vi y] (.bool true) :=
  pure_of bZ3_ok 10 [] [false, false, true, false, false, true] (l := [kD c r p q x y = true, (arTE a b d e == 0) = false, kB c r p q = false, (textE c r == 0) = true, (!((textE c r == 0) == validB c r)) = false, ((parseS s).e == 0) = false]) (by kernel_rfl) ⟨hd, hc, kB_ok (by rw [← textE_iff]; exact hb), hb, kV c r, ha, trivial⟩


set_option maxRecDepth 100000 in
theorem ab_ftff (s : List UInt8) (_hs : s.length ≤ 9223372036854775807) (c r : Int) (p q : Bool) (a b d e x y : Int) (ha : ((parseS s).e == 0) = false) (hb : (textE c r == 0) = true) (hc : (arTE a b d e == 0) = false) (hd : kD c r p q x y = false) :
    Pure Tryd.prog J0 5 [.string ⟨⟨s⟩⟩, vRef c r p q, vArea a b d e, vi x, vi y] (.bool (kH c r p q x y)) :=
  pure_of bZ3_ok 10 [] [false, false, true, false, false, false] (l := [kD c r p q x y = false, (arTE a b d e == 0) = false, kB c r p q = false, (textE c r == 0) = true, (!((textE c r == 0) == validB c r)) = false, ((parseS s).e == 0) = false]) (by kernel_rfl) ⟨hd, hc, kB_ok (by rw [← textE_iff]; exact hb), hb, kV c r, ha, trivial⟩


set_option maxRecDepth 100000 in
theorem ab_fftt (s : List UInt8) (_hs : s.length ≤ 9223372036854775807) (c r : Int) (p q : Bool) (a b d e x y : Int) (ha : ((parseS s).e == 0) = false) (hb : (textE c r == 0) = false) (hc : (arTE a b d e == 0) = true) (hd : kD c r p q x y = true) :
    Pure Tryd.prog J0 5 [.string ⟨⟨s⟩⟩, vRef c r p q, vArea a b d e, vi x, vi y] (.bool true) :=
  pure_of bZ3_ok 10 [] [false, false, false, true, false, true] (l := [kD c r p q x y = true, kC a b d e = false, (arText a b d e).length ≤ 9223372036854775807, (arTE a b d e == 0) = true, (textE c r == 0) = false, (!((textE c r == 0) == validB c r)) = false, ((parseS s).e == 0) = false]) (by kernel_rfl) ⟨hd, kC_ok (by rw [← arTE_iff]; exact hc), (area_back (by rw [← arTE_iff]; exact hc)).2, hc, hb, kV c r, ha, trivial⟩


set_option maxRecDepth 100000 in
theorem ab_fftf (s : List UInt8) (_hs : s.length ≤ 9223372036854775807) (c r : Int) (p q : Bool) (a b d e x y : Int) (ha : ((parseS s).e == 0) = false) (hb : (textE c r == 0) = false) (hc : (arTE a b d e == 0) = true) (hd : kD c r p q x y = false) :
    Pure Tryd.prog J0 5 [.string ⟨⟨s⟩⟩, vRef c r p q, vArea a b d e, vi x, vi y] (.bool (kH c r p q x y)) :=
  pure_of bZ3_ok 10 [] [false, false, false, true, false, false] (l := [kD c r p q x y = false, kC a b d e = false, (arText a b d e).length ≤ 9223372036854775807, (arTE a b d e == 0) = true, (textE c r == 0) = false, (!((textE c r == 0) == validB c r)) = false, ((parseS s).e == 0) = false]) (by kernel_rfl) ⟨hd, kC_ok (by rw [← arTE_iff]; exact hc), (area_back (by rw [← arTE_iff]; exact hc)).2, hc, hb, kV c r, ha, trivial⟩


set_option maxRecDepth 100000 in
theorem ab_ffft (s : List UInt8) (_hs : s.length ≤ 9223372036854775807) (c r : Int) (p q : Bool) (a b d e x y : Int) (ha : ((parseS s).e == 0) = false) (hb : (textE c r == 0) = false) (hc : (arTE a b d e == 0) = false) (hd : kD c r p q x y = true) :
    Pure Tryd.prog J0 5 [.string ⟨⟨s⟩⟩, vRef c r p q, vArea a b d e, vi x, vi y] (.bool true) :=
  pure_of bZ3_ok 10 [] [false, false, false, false, true] (l := [kD c r p q x y = true, (arTE a b d e == 0) = false, (textE c r == 0) = false, (!((textE c r == 0) == validB c r)) = false, ((parseS s).e == 0) = false]) (by kernel_rfl) ⟨hd, hc, hb, kV c r, ha, trivial⟩


set_option maxRecDepth 100000 in
theorem ab_ffff (s : List UInt8) (_hs : s.length ≤ 9223372036854775807) (c r : Int) (p q : Bool) (a b d e x y : Int) (ha : ((parseS s).e == 0) = false) (hb : (textE c r == 0) = false) (hc : (arTE a b d e == 0) = false) (hd : kD c r p q x y = false) :
    Pure Tryd.prog J0 5 [.string ⟨⟨s⟩⟩, vRef c r p q, vArea a b d e, vi x, vi y] (.bool (kH c r p q x y)) :=
  pure_of bZ3_ok 10 [] [false, false, false, false, false] (l := [kD c r p q x y = false, (arTE a b d e == 0) = false, (textE c r == 0) = false, (!((textE c r == 0) == validB c r)) = false, ((parseS s).e == 0) = false]) (by kernel_rfl) ⟨hd, hc, hb, kV c r, ha, trivial⟩


theorem addrBack_list (s : List UInt8) (hs : s.length ≤ 9223372036854775807) (c r : Int) (p q : Bool) (a b d e x y : Int) : Pure Tryd.prog J0 5 [.string ⟨⟨s⟩⟩, vRef c r p q, vArea a b d e, vi x, vi y] (.bool true) := by
  cases hd : kD c r p q x y
  · rw [← kH_ok hd]
    cases ha : ((parseS s).e == 0) <;> cases hb : (textE c r == 0) <;> cases hc : (arTE a b d e == 0)
    · exact ab_ffff s hs c r p q a b d e x y ha hb hc hd
    · exact ab_fftf s hs c r p q a b d e x y ha hb hc hd
    · exact ab_ftff s hs c r p q a b d e x y ha hb hc hd
    · exact ab_fttf s hs c r p q a b d e x y ha hb hc hd
    · exact ab_tfff s hs c r p q a b d e x y ha hb hc hd
    · exact ab_tftf s hs c r p q a b d e x y ha hb hc hd
    · exact ab_ttff s hs c r p q a b d e x y ha hb hc hd
    · exact ab_tttf s hs c r p q a b d e x y ha hb hc hd
  · cases ha : ((parseS s).e == 0) <;> cases hb : (textE c r == 0) <;> cases hc : (arTE a b d e == 0)
    · exact ab_ffft s hs c r p q a b d e x y ha hb hc hd
    · exact ab_fftt s hs c r p q a b d e x y ha hb hc hd
    · exact ab_ftft s hs c r p q a b d e x y ha hb hc hd
    · exact ab_fttt s hs c r p q a b d e x y ha hb hc hd
    · exact ab_tfft s hs c r p q a b d e x y ha hb hc hd
    · exact ab_tftt s hs c r p q a b d e x y ha hb hc hd
    · exact ab_ttft s hs c r p q a b d e x y ha hb hc hd
    · exact ab_tttt s hs c r p q a b d e x y ha hb hc hd

theorem addrBack_pure (s : ByteArray) (hs : s.size ≤ maxLen) (c r : Int) (p q : Bool) (a b d e x y : Int) : Pure Tryd.prog J0 5 [.string s, vRef c r p q, vArea a b d e, vi x, vi y] (.bool true) := by
  obtain ⟨⟨l⟩⟩ := s
  have h : l.length ≤ maxLen := hs
  exact addrBack_list l (Nat.le_trans h (by decide)) c r p q a b d e x y

end Go.Proofs.YthclpocignpfhaaDoor
