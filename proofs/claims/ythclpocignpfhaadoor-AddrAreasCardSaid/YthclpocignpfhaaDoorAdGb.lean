/-
  Layer 10 (addr), AddrAreas: 'gone', the going over an area's cells beside the list of the reference: left early, again, within itself.
-/
import Derived.Test.YthclpocignpfhaaDoorAdGa
namespace Go.Proofs.YthclpocignpfhaaDoor
open Go Go.RowKit Ev AdS

/-! The list of the reference, read. -/

theorem rowL_get : ∀ (n : Nat) (x y : Int) (j : Nat), j < n → (rowL n x y).getD (j * 2) 0 = x + j ∧ (rowL n x y).getD (j * 2 + 1) 0 = y
  | 0, _, _, j, h => by omega
  | n + 1, x, y, 0, _ => by simp [rowL]
  | n + 1, x, y, j + 1, h => by
    obtain ⟨h1, h2⟩ := rowL_get n (x + 1) y j (by omega)
    unfold rowL
    rw [show (j + 1) * 2 = j * 2 + 1 + 1 by omega, show j * 2 + 1 + 1 + 1 = (j * 2 + 1) + 1 + 1 by omega]
    simp only [List.getD_cons_succ]
    refine ⟨by rw [h1]; omega, h2⟩

theorem gridL_get : ∀ (h w : Nat) (x y : Int) (i j : Nat), i < h → j < w → (gridL h w x y).getD ((i * w + j) * 2) 0 = x + j ∧ (gridL h w x y).getD ((i * w + j) * 2 + 1) 0 = y + i
  | 0, _, _, _, i, j, h, _ => by omega
  | h + 1, w, x, y, 0, j, _, hj => by
    obtain ⟨h1, h2⟩ := rowL_get w x y j hj
    unfold gridL
    rw [Nat.zero_mul, Nat.zero_add]
    have hl := rowL_length w x y
    simp only [List.getD_eq_getElem?_getD] at h1 h2 ⊢
    rw [List.getElem?_append_left (by omega), List.getElem?_append_left (by omega), h1, h2]
    simp
  | h + 1, w, x, y, i + 1, j, hi, hj => by
    obtain ⟨h1, h2⟩ := gridL_get h w x (y + 1) i j (by omega) hj
    unfold gridL
    have hl := rowL_length w x y
    have e : ((i + 1) * w + j) * 2 = w * 2 + (i * w + j) * 2 := by rw [Nat.add_mul i 1 w]; omega
    simp only [List.getD_eq_getElem?_getD] at h1 h2 ⊢
    rw [e, List.getElem?_append_right (by omega), List.getElem?_append_right (by omega), hl, show w * 2 + (i * w + j) * 2 - w * 2 = (i * w + j) * 2 by omega, show w * 2 + (i * w + j) * 2 + 1 - w * 2 = (i * w + j) * 2 + 1 by omega, h1, h2]
    refine ⟨rfl, by push_cast; omega⟩

/-- Is it not the k-th of the list? -/
def wasB (ns : List Int) (N : Nat) (k x y : Int) : Bool := match decide (k ≥ (N : Int)) with
  | true => true
  | false => !(x == ns.getD (addO 0 (mulO k.toNat 2)) 0 && (y == ns.getD (addO 0 (mulO k.toNat 2) + 1) 0 && true))

def W3 (ns : List Int) (N : Nat) (k x y : Int) : List Prop :=
  [wasB ns N k x y = false, condP [(4, decide (k ≥ (N : Int)))] [(4, false)] → addO 0 (mulO k.toNat 2) + 2 ≤ ns.length, condP [(4, decide (k ≥ (N : Int)))] [(4, false)] → (0 ≤ k ∧ k < (N : Int)) ∧ N ≤ ns.length]

theorem w3_of {ns : List Int} {N : Nat} {x y : Int} {k : Nat} (h1 : k < N) (h2 : ns.length = N * 2) (h3 : ns.getD (k * 2) 0 = x) (h4 : ns.getD (k * 2 + 1) 0 = y) : allP (W3 ns N k x y) := by
  have e : addO 0 (mulO (Int.toNat (k : Int)) 2) = k * 2 := by simp
  have hd : decide ((k : Int) ≥ (N : Int)) = false := decide_eq_false (by omega)
  unfold W3
  refine ⟨?_, fun _ => by rw [e]; omega, fun _ => by omega, trivial⟩
  unfold wasB
  rw [hd, e, h3, h4]
  simp

/-- How many, as a whole number. -/
theorem cells_count {a b c d : Int} (h : areaB a b c d = true) : (cellsN a b c d : Int) = (d - b + 1) * (c - a + 1) ∧ (cellsNs a b c d).length = cellsN a b c d * 2 := by
  have hv := areaB_iff.1 h
  unfold cellsN cellsNs
  rw [if_pos h, if_pos h, gridL_length]
  refine ⟨?_, rfl⟩
  have e1 : ((d + 1 - b).toNat : Int) = d - b + 1 := by omega
  have e2 : ((c + 1 - a).toNat : Int) = c - a + 1 := by omega
  rw [Int.natCast_mul, e1, e2]

theorem w3_ok {a b c d : Int} (h : areaB a b c d = true) {x y k : Int} (h1 : a ≤ x) (h2 : x ≤ c) (h3 : b ≤ y) (h4 : y ≤ d) (hk : k = (y - b) * (c - a + 1) + (x - a)) : allP (W3 (cellsNs a b c d) (cellsN a b c d) k x y) := by
  have hv := areaB_iff.1 h
  obtain ⟨hN, hl⟩ := cells_count h
  have hm : (y - b) * (c - a + 1) ≤ (d - b) * (c - a + 1) := Int.mul_le_mul_of_nonneg_right (by omega) (by omega)
  have hm2 : (d - b + 1) * (c - a + 1) = (d - b) * (c - a + 1) + (c - a + 1) := by rw [Int.add_mul, Int.one_mul]
  obtain ⟨i, hi⟩ : ∃ i : Nat, y = b + i := ⟨(y - b).toNat, by omega⟩
  obtain ⟨j, hj⟩ : ∃ j : Nat, x = a + j := ⟨(x - a).toNat, by omega⟩
  have hkn : k = ((i * (c + 1 - a).toNat + j : Nat) : Int) := by
    have e2 : ((c + 1 - a).toNat : Int) = c - a + 1 := by omega
    rw [hk, Int.natCast_add, Int.natCast_mul, e2, show y - b = (i : Int) by omega, show x - a = (j : Int) by omega]
  obtain ⟨g1, g2⟩ := gridL_get (d + 1 - b).toNat (c + 1 - a).toNat a b i j (by omega) (by omega)
  rw [hkn]
  refine w3_of ?_ hl ?_ ?_
  · have : ((i * (c + 1 - a).toNat + j : Nat) : Int) < (cellsN a b c d : Int) := by rw [← hkn, hN]; omega
    omega
  · unfold cellsNs; rw [if_pos h, g1, hj]
  · unfold cellsNs; rw [if_pos h, g2, hi]

/-! Where the goings over begin. -/

/-- Up to the k-th range over a function. -/
def grabK (X : Cx) : Nat → Nat → Code → St → Option (Nat × (St ⊕ (AX × St)))
  | 0, _, _, _ => none
  | f + 1, k, c, s =>
    match c with
    | .seq c1 c2 => match grabK X f k c1 s with
      | some (k', .inr (.normal, s1)) => grabK X f k' c2 s1
      | r => r
    | .block id c1 => match grabK X f k c1 s with
      | some (k', .inr (.exit i, s1)) => match Nat.beq i id with
        | true => some (k', .inr (.normal, s1))
        | false => some (k', .inr (.exit i, s1))
      | r => r
    | .cond o c1 c2 => match evo s.tmps [] o with
      | some (.bool b) => match s.ds with
        | d :: ds => match d with
          | true => grabK X f k c1 (s.bit ds (b = true))
          | false => grabK X f k c2 (s.bit ds (b = false))
        | [] => match b with
          | true => grabK X f k c1 s
          | false => grabK X f k c2 s
      | _ => none
    | .rangeFunc a b g h => match k with
      | 0 => some (0, .inl s)
      | k + 1 => match evCode X [] (f + 1) (.rangeFunc a b g h) s with
        | some r => some (k, .inr r)
        | none => none
    | c => match evCode X [] (f + 1) c s with
      | some r => some (k, .inr r)
      | none => none
def rangesOf : Code → List (List Nat × Code × Code)
  | .seq a b => rangesOf a ++ rangesOf b
  | .cond _ a b => rangesOf a ++ rangesOf b
  | .block _ a => rangesOf a
  | .loop a => rangesOf a
  | .rangeFunc _ ⟨ps⟩ asg bd => [(ps, asg, bd)]
  | _ => []
def noSt : St := ⟨[], [], 0, [], [], 0, none, [], 0⟩
/-- The state in which the function of the k-th range of f is entered. -/
def enterK (X : Cx) (fuel f k : Nat) (args : List Value) (H : Heap) (n : Nat) (ds : List Bool) : St :=
  match X.P.funcs[f]? with
  | some fn => match fn.body with
    | some c => match grabK X fuel k c ⟨args.map .v ++ List.replicate (fn.ntmps - args.length) (.v undef), H, n, ds, [], 0, none, [], n⟩, (rangesOf c)[k]? with
      | some (_, .inl s), some (ps, asg, bd) => match enterL s ps asg bd with
        | some (_, s1) => s1
        | none => noSt
      | _, _ => noSt
    | none => noSt
  | none => noSt

noncomputable def c49 : Code := loopAt Tryd.prog 49 0
def HG (ns : List Int) : Heap := [(6, .ints .i64 ns)]
abbrev wArg (N cap : Nat) : Value := .slice (some ⟨6, 0, none⟩) N cap

def doneAt (l : Nat) (hp : Heap) : Heap := match hp.get l with
  | some (.loop _ _ ts ps asg bd) => hp.set l (.loop .done (some (.exit 0)) ts ps asg bd)
  | _ => hp
def mayDone (brk : Bool) (l : Nat) (hp : Heap) : Heap := match brk with
  | true => doneAt l hp
  | false => hp

/-- The first's states between two rounds; 'brk': it has been left. -/
def TA (S : St) (brk : Bool) (cx cy k : Int) : St :=
  match S with
  | ⟨_, hp, n, _, _, _, rd, mq, b⟩ => ⟨only 37 [(0, .func (.yield 24) ⟨[]⟩ ⟨[]⟩), (1, .pointer (some ⟨12, 0, none⟩)), (3, .pointer (some ⟨29, 0, none⟩))],
      mayDone brk 24 ((hp.set 29 (.cells [vi cx, vi cy] 24)).set 20 (.cells [vi k] 3)), n, [], [], 0, rd, mq, b⟩
/-- The second's. -/
def TB (S : St) (cx cy k : Int) : St :=
  match S with
  | ⟨_, hp, n, _, _, _, rd, mq, b⟩ => ⟨only 37 [(0, .func (.yield 40) ⟨[]⟩ ⟨[]⟩), (1, .pointer (some ⟨12, 0, none⟩)), (3, .pointer (some ⟨45, 0, none⟩))],
      dropIds [24] ((hp.set 45 (.cells [vi cx, vi cy] 24)).set 20 (.cells [vi k] 3)), n, [], [], 0, rd, mq, b⟩

section
variable (a b c d leave : Int) (ns : List Int) (N cap : Nat)
noncomputable def SA0 : St := enterK X2 200 27 0 [vArea a b c d, wArg N cap, vi leave] (HG ns) 7 [false]
noncomputable def SA : St := startAt X2 200 49 [.func (.yield 24) ⟨[]⟩ ⟨[]⟩, .pointer (some ⟨12, 0, none⟩)] (SA0 a b c d leave ns N cap).heap (SA0 a b c d leave ns N cap).nid [false]
/-- The first is told here, for the sake of the second's beginning. -/
noncomputable def bGA (kA : Int) (brk : Bool) : Base := ⟨Tryd.prog, J0, false, tabY2, mtabL bY2 10 [told .ret (fun S => TA S brk c d kA)] 49, 200⟩
noncomputable def SBx0 (kA : Int) (brk : Bool) : St := enterK ((bGA c d kA brk).cx 10) 200 27 1 [vArea a b c d, wArg N cap, vi leave] (HG ns) 7 [false, false, false]
noncomputable def SBx (kA : Int) (brk : Bool) : St := startAt X2 200 49 [.func (.yield 40) ⟨[]⟩ ⟨[]⟩, .pointer (some ⟨12, 0, none⟩)] (SBx0 a b c d leave ns N cap kA brk).heap (SBx0 a b c d leave ns N cap kA brk).nid [false]
noncomputable abbrev SB (kA : Int) : St := SBx a b c d leave ns N cap kA false
abbrev w1 (x : Int) : Int := IntKind.i64.wrap (x + 1)

variable (kA cx cy k : Int)
set_option maxRecDepth 100000 in
theorem sA_next (h : allP ((decide (c < w1 cx) = false) :: ((cx == c && (cy == d && true)) = false) :: ((w1 k == leave) = false) :: W3 ns N k cx cy)) :
    Step X2 c49 (TA (SA a b c d leave ns N cap) false cx cy k) .normal (TA (SA a b c d leave ns N cap) false (w1 cx) cy (w1 k)) :=
  step_of (Base.cx_ok bY2_ok 10).1 progOk.mixed [] 200 [false, false, false, false] [(29, 55)] (by kernel_rfl) h (by kernel_rfl) (by kernel_rfl)
set_option maxRecDepth 100000 in
theorem sA_wrap (h : allP ((decide (c < w1 cx) = true) :: ((cx == c && (cy == d && true)) = false) :: ((w1 k == leave) = false) :: W3 ns N k cx cy)) :
    Step X2 c49 (TA (SA a b c d leave ns N cap) false cx cy k) .normal (TA (SA a b c d leave ns N cap) false a (w1 cy) (w1 k)) :=
  step_of (Base.cx_ok bY2_ok 10).1 progOk.mixed [] 200 [false, false, false, true] [(29, 63)] (by kernel_rfl) h (by kernel_rfl) (by kernel_rfl)
set_option maxRecDepth 100000 in
theorem sA_last (h : allP (((cx == c && (cy == d && true)) = true) :: ((w1 k == leave) = false) :: W3 ns N k cx cy)) :
    Step X2 c49 (TA (SA a b c d leave ns N cap) false cx cy k) .ret (TA (SA a b c d leave ns N cap) false cx cy (w1 k)) :=
  step_of (Base.cx_ok bY2_ok 10).1 progOk.mixed [] 200 [false, false, true] [] (by kernel_rfl) h (by kernel_rfl) (by kernel_rfl)
set_option maxRecDepth 100000 in
theorem sA_break (h : allP ((true = true) :: ((w1 k == leave) = true) :: W3 ns N k cx cy)) :
    Step X2 c49 (TA (SA a b c d leave ns N cap) false cx cy k) .ret (TA (SA a b c d leave ns N cap) true cx cy (w1 k)) :=
  step_of (Base.cx_ok bY2_ok 10).1 progOk.mixed [] 200 [false, true, true] [] (by kernel_rfl) h (by kernel_rfl) (by kernel_rfl)

set_option maxRecDepth 100000 in
theorem sB_next (h : allP ((decide (c < w1 cx) = false) :: ((cx == c && (cy == d && true)) = false) :: ((k == 1) = false) :: W3 ns N k cx cy)) :
    Step X2 c49 (TB (SB a b c d leave ns N cap kA) cx cy k) .normal (TB (SB a b c d leave ns N cap kA) (w1 cx) cy (w1 k)) :=
  step_of (Base.cx_ok bY2_ok 10).1 progOk.mixed [] 200 [false, false, false, false] [(45, 70)] (by kernel_rfl) h (by kernel_rfl) (by kernel_rfl)
set_option maxRecDepth 100000 in
theorem sB_wrap (h : allP ((decide (c < w1 cx) = true) :: ((cx == c && (cy == d && true)) = false) :: ((k == 1) = false) :: W3 ns N k cx cy)) :
    Step X2 c49 (TB (SB a b c d leave ns N cap kA) cx cy k) .normal (TB (SB a b c d leave ns N cap kA) a (w1 cy) (w1 k)) :=
  step_of (Base.cx_ok bY2_ok 10).1 progOk.mixed [] 200 [false, false, false, true] [(45, 78)] (by kernel_rfl) h (by kernel_rfl) (by kernel_rfl)
set_option maxRecDepth 100000 in
theorem sB_last (h : allP (((cx == c && (cy == d && true)) = true) :: ((k == 1) = false) :: W3 ns N k cx cy)) :
    Step X2 c49 (TB (SB a b c d leave ns N cap kA) cx cy k) .ret (TB (SB a b c d leave ns N cap kA) cx cy (w1 k)) :=
  step_of (Base.cx_ok bY2_ok 10).1 progOk.mixed [] 200 [false, false, true] [] (by kernel_rfl) h (by kernel_rfl) (by kernel_rfl)
end

end Go.Proofs.YthclpocignpfhaaDoor
