/-
  The evaluator, part D: operations that lay new blocks, literals, conversions, slices of strings, ranges over strings, builtins on values.
-/
import Derived.Test.YtaopinmjgjpiiaaGreatDoorEvC
namespace Go.Proofs.YtaopinmjgjpiiaaGreatDoor.Ev
open Go Go.RowKit
noncomputable section

def zeroV (P : Program) (t : TypeId) : Option Value :=
  match infF P t with
  | none => none
  | some i => match i.zero with
    | none => none
    | some z => match pureV z with
      | true => some z
      | false => none

theorem zeroV_sound {P : Program} {t : TypeId} {z : Value} (h : zeroV P t = some z) : (∀ w, (zeroValue t).run P w = .ok z w) ∧ pureV z = true := by
  unfold zeroV at h
  simp only [infF_eq] at h
  split at h
  case h_1 => cases h
  rename_i i hi
  split at h
  case h_1 => cases h
  rename_i z' hz
  split at h
  case h_2 => cases h
  rename_i hp
  cases h
  exact ⟨fun w => by simp [zeroValue, typeInfo, hi, hz], hp⟩

theorem run_newVar' {P : Program} {t : TypeId} {v : Value} {w : World} : (newVar t v).run P w = .ok ⟨w.heap.size, 0, none⟩ (w.alloc (.cells v.cells t)) := by
  simp only [newVar, newRow, Sem.run_bind, newObj, Sem.run, Result.andThen_ok]
  rfl

/-- A new variable. -/
theorem newVar_sound {P : Program} {B : Nat} {M : Nat → Prop} {ρ : Num} {H : Heap} {w : World} (hS : Sim P B M ρ H w) {n : Nat} (hn : ρ n = some w.heap.size) (hB : B ≤ w.heap.size) (t : TypeId) (v : Value) :
    Sim P B M ρ ((n, .cells v.cells.toList t) :: H) (w.alloc (.cells (rv ρ v).cells t)) := by
  refine hS.new hn ⟨w.heap.size, rfl, ?_, .inl hB⟩
  rw [heap_alloc_new]
  have : (rv ρ v).cells = (rvL ρ v.cells.toList).toArray := by
    rw [rv_cells, rvL_eq, ← Array.toList_map]
  rw [this]

theorem foldset : ∀ (vs : List Value) (off k : Nat) (cells : List Value), off + k + vs.length ≤ cells.length →
    (vs.zipIdx k).foldl (fun (cs : Array Value) (p : Value × Nat) => cs.setIfInBounds (off + p.2) p.1) ⟨cells⟩ = ⟨cells.take (off + k) ++ vs ++ cells.drop (off + k + vs.length)⟩
  | [], off, k, cells, _ => by simp
  | v :: vs, off, k, cells, h => by
    simp only [List.zipIdx_cons, List.foldl_cons]
    have hset : (⟨cells⟩ : Array Value).setIfInBounds (off + k) v = ⟨cells.set (off + k) v⟩ := by simp
    rw [hset, foldset vs off (k + 1) _ (by simp at h ⊢; omega)]
    have := list_seg_step cells (off + k) v vs (by simp at h; omega)
    congr 1

/-- A literal's parts are laid. -/
def fillL (place : Nat → Option (Nat × Nat)) (cells : List Value) : List (Nat × Value) → Option (List Value)
  | [] => some cells
  | (i, v) :: rest => match place i with
    | none => none
    | some (off, size) => match Nat.beq v.cells.toList.length size && Nat.ble (off + v.cells.toList.length) cells.length with
      | true => fillL place (cells.take off ++ v.cells.toList ++ cells.drop (off + v.cells.toList.length)) rest
      | false => none

theorem fillL_sound (ρ : Num) (place : Nat → Option (Nat × Nat)) : ∀ (parts : List (Nat × Value)) (cells out : List Value), fillL place cells parts = some out →
    Instr.fill place (rvL ρ cells).toArray (parts.map fun p => (p.1, rv ρ p.2)) = some (rvL ρ out).toArray
  | [], cells, out, h => by simp only [fillL] at h; cases h; rfl
  | (i, v) :: rest, cells, out, h => by
    simp only [fillL] at h
    split at h
    case h_1 => cases h
    rename_i off size hp
    split at h
    case h_2 => cases h
    rename_i hc
    simp only [Bool.and_eq_true, Nat.beq_eq, Nat.ble_eq] at hc
    obtain ⟨h1, h2⟩ := hc
    have ih := fillL_sound ρ place rest _ out h
    have hvl : (rv ρ v).cells.size = v.cells.toList.length := by rw [rv_cells]; simp
    have hcl : (rvL ρ cells).toArray.size = cells.length := by simp [rvL_eq]
    simp only [List.map_cons, Instr.fill, hp]
    rw [if_neg (by simp only [hvl, hcl, h1, Bool.or_eq_true, decide_eq_true_eq]; omega)]
    have hf := foldset (rv ρ v).cells.toList off 0 (rvL ρ cells) (by rw [Array.length_toList, hvl, rvL_eq]; simpa using h2)
    have hz : ((rv ρ v).cells.zipIdx).foldl (fun (cs : Array Value) (p : Value × Nat) => cs.setIfInBounds (off + p.2) p.1) (rvL ρ cells).toArray = ⟨(rvL ρ cells).take (off + 0) ++ (rv ρ v).cells.toList ++ (rvL ρ cells).drop (off + 0 + (rv ρ v).cells.toList.length)⟩ := by
      rw [← Array.foldl_toList, Array.toList_zipIdx]
      exact hf
    have hgoal : (⟨(rvL ρ cells).take (off + 0) ++ (rv ρ v).cells.toList ++ (rvL ρ cells).drop (off + 0 + (rv ρ v).cells.toList.length)⟩ : Array Value) = (rvL ρ (cells.take off ++ v.cells.toList ++ cells.drop (off + v.cells.toList.length))).toArray := by
      congr 1
      simp only [rvL_eq, List.map_append, List.map_take, List.map_drop, rv_cells, Nat.add_zero, Array.toList_map, List.length_map]
    rw [hgoal] at hz
    rw [← ih, ← hz]

def evParts (ev : Operand → Option Value) : List (Nat × Operand) → Option (List (Nat × Value))
  | [] => some []
  | (i, x) :: r => match ev x, evParts ev r with
    | some v, some l => some ((i, v) :: l)
    | _, _ => none

theorem evParts_sound {ev : Operand → Option Value} {a : Operand → Value} {ρ : Num} : ∀ (l : List (Nat × Operand)) (r : List (Nat × Value)), (∀ p ∈ l, ∀ y, ev p.2 = some y → a p.2 = rv ρ y) → evParts ev l = some r →
    l.map (fun p => (p.1, a p.2)) = r.map fun p => (p.1, rv ρ p.2)
  | [], r, _, h => by simp only [evParts] at h; cases h; rfl
  | (i, x) :: l, r, he, h => by
    simp only [evParts] at h
    split at h
    · rename_i v l' hv hl'
      cases h
      simp [he (i, x) (by simp) v hv, evParts_sound l l' (fun p hp => he p (by simp [hp])) hl']
    · cases h

def evArgs (ev : Operand → Option Value) : List Operand → Option (List Value)
  | [] => some []
  | x :: r => match ev x, evArgs ev r with
    | some v, some l => some (v :: l)
    | _, _ => none

theorem evArgs_sound {ev : Operand → Option Value} {a : Operand → Value} {ρ : Num} : ∀ (l : List Operand) (r : List Value), (∀ x ∈ l, ∀ y, ev x = some y → a x = rv ρ y) → evArgs ev l = some r → l.map a = rvL ρ r
  | [], r, _, h => by simp only [evArgs] at h; cases h; rfl
  | x :: l, r, he, h => by
    simp only [evArgs] at h
    split at h
    · rename_i v l' hv hl'
      cases h
      simp [he x (by simp) v hv, evArgs_sound l l' (fun p hp => he p (by simp [hp])) hl', rvL]
    · cases h

def sizesL (P : Program) : List Field → Option (List (Nat × Nat))
  | [] => some []
  | f :: r => match infF P f.type, sizesL P r with
    | some i, some l => some ((f.offset, i.size) :: l)
    | _, _ => none

theorem sizesL_sound {P : Program} : ∀ (fs : List Field) (l : List (Nat × Nat)), sizesL P fs = some l → ∀ w, (fs.mapM fun f => (do pure (f.offset, ← sizeOf f.type) : Sem (Nat × Nat))).run P w = .ok l w
  | [], l, h, w => by simp only [sizesL] at h; cases h; rfl
  | f :: fs, l, h, w => by
    simp only [sizesL, infF_eq] at h
    split at h
    · rename_i i l' hi hl'
      cases h
      have ih := sizesL_sound fs l' hl' w
      simp only [List.mapM_cons, Sem.run_bind, run_sizeOf' hi, Result.andThen_ok, Sem.run_pure, ih]
    · cases h

def evBuild (P : Program) (t : TypeId) (parts : List (Nat × Value)) : Option Value :=
  match zeroV P t with
  | none => none
  | some z => match undF P t with
    | some (.struct fs) => match sizesL P fs.toList with
      | none => none
      | some places => match fillL (fun i => places[i]?) z.cells.toList parts with
        | some cs => some (.agg ⟨cs⟩)
        | none => none
    | some (.array _ e) => match infF P e with
      | none => none
      | some i => match fillL (fun j => some (j * i.size, i.size)) z.cells.toList parts with
        | some cs => some (.agg ⟨cs⟩)
        | none => none
    | _ => none

theorem rvL_zero {z : Value} (h : pureV z = true) (ρ : Num) : rvL ρ z.cells.toList = z.cells.toList := by
  have := rv_cells ρ z
  rw [rv_pure ρ z h] at this
  rw [rvL_eq, ← Array.toList_map, ← this]

theorem evBuild_sound {P : Program} {t : TypeId} {parts : List (Nat × Value)} {v : Value} (h : evBuild P t parts = some v) (ρ : Num) (w : World) :
    (Instr.build t (parts.map fun p => (p.1, rv ρ p.2)).toArray).run P w = .ok (rv ρ v) w := by
  unfold evBuild at h
  simp only [undF_eq, infF_eq] at h
  split at h
  case h_1 => cases h
  rename_i z hz
  obtain ⟨hz1, hz2⟩ := zeroV_sound hz
  have hzc : (⟨rvL ρ z.cells.toList⟩ : Array Value) = z.cells := by rw [rvL_zero hz2]
  split at h
  · rename_i fs hu
    split at h
    case h_1 => cases h
    rename_i places hp
    split at h
    case h_2 => cases h
    rename_i cs hc
    cases h
    have hm := sizesL_sound _ _ hp w
    have hf := fillL_sound ρ _ parts z.cells.toList cs hc
    rw [show (rvL ρ z.cells.toList).toArray = z.cells from hzc] at hf
    simp only [Instr.build, Sem.run_bind, hz1, Result.andThen_ok, run_underlying hu]
    rw [Array.mapM_eq_mapM_toList]
    simp only [Sem.run_map, hm, Result.andThen_ok]
    have hpl : (fun i : Nat => places.toArray[i]?) = fun i : Nat => places[i]? := by funext i; simp
    rw [hpl, hf]
    simp [rv, rvA]
  · rename_i n e hu
    split at h
    case h_1 => cases h
    rename_i i hi
    split at h
    case h_2 => cases h
    rename_i cs hc
    cases h
    have hf := fillL_sound ρ _ parts z.cells.toList cs hc
    rw [show (rvL ρ z.cells.toList).toArray = z.cells from hzc] at hf
    simp only [Instr.build, Sem.run_bind, hz1, Result.andThen_ok, run_underlying hu, run_sizeOf' hi, hf]
    simp [rv, rvA]
  · cases h

def rep (z : List Value) : Nat → List Value
  | 0 => []
  | n + 1 => z ++ rep z n

def evBuildSlice (P : Program) (t : TypeId) (len : Nat) (parts : List (Nat × Value)) : Option (TypeId × List Value) :=
  match undF P t with
  | some (.slice e) => match infF P e, zeroV P e with
    | some i, some z =>
      match Nat.beq i.size z.cells.toList.length && Nat.ble (len * i.size) 16777216 && !(Nat.beq (len * i.size) 0) with
      | false => none
      | true => match fillL (fun j => some (j * i.size, i.size)) (rep z.cells.toList len) parts with
        | some cs => some (e, cs)
        | none => none
    | _, _ => none
  | _ => none

theorem rep_get (z : List Value) (hz : 0 < z.length) : ∀ (n i : Nat), i < n * z.length → (rep z n)[i]? = z[i % z.length]?
  | 0, i, h => by simp at h
  | n + 1, i, h => by
    simp only [rep]
    by_cases hi : i < z.length
    · rw [List.getElem?_append_left hi, Nat.mod_eq_of_lt hi]
    · rw [List.getElem?_append_right (by omega), rep_get z hz n (i - z.length) (by rw [Nat.add_mul] at h; omega)]
      congr 1
      rw [Nat.mod_eq_sub_mod (by omega : i ≥ z.length)]

theorem rep_length (z : List Value) : ∀ n, (rep z n).length = n * z.length
  | 0 => by simp [rep]
  | n + 1 => by simp [rep, rep_length z n, Nat.add_mul]; omega

theorem rep_eq (z : Array Value) (hz : 0 < z.size) (n : Nat) : (Array.range (n * z.size)).map (fun j => z[j % z.size]!) = (rep z.toList n).toArray := by
  apply Array.ext_getElem?
  intro i
  by_cases h : i < n * z.size
  · have hm : i % z.size < z.size := Nat.mod_lt _ hz
    have := rep_get z.toList (by simpa using hz) n i (by simpa using h)
    simp only [Array.length_toList] at this
    simp [h, this, hm]
  · have h1 : (rep z.toList n).length = n * z.size := by simp [rep_length]
    rw [Array.getElem?_eq_none (by simp; omega), List.getElem?_toArray, List.getElem?_eq_none (by omega)]

theorem rvL_rep (ρ : Num) (z : List Value) (h : rvL ρ z = z) : ∀ n, rvL ρ (rep z n) = rep z n
  | 0 => by simp [rep, rvL]
  | n + 1 => by
    have ih := rvL_rep ρ z h n
    rw [rvL_eq] at h ih
    simp only [rep, rvL_eq, List.map_append, ih, h]

theorem evBuildSlice_sound {P : Program} {t e : TypeId} {len : Nat} {parts : List (Nat × Value)} {cs : List Value} (h : evBuildSlice P t len parts = some (e, cs)) (ρ : Num) (w : World) :
    (Instr.buildSlice t len (parts.map fun p => (p.1, rv ρ p.2)).toArray).run P w = .ok (.slice (some ⟨w.heap.size, 0, none⟩) len len) (w.alloc (.cells (rvL ρ cs).toArray e)) := by
  unfold evBuildSlice at h
  simp only [undF_eq, infF_eq] at h
  split at h
  case h_2 => cases h
  rename_i e' hu
  split at h
  case h_2 => cases h
  rename_i i z hi hz
  obtain ⟨hz1, hz2⟩ := zeroV_sound hz
  split at h
  case h_1 => cases h
  rename_i hc
  simp only [Bool.and_eq_true, Nat.beq_eq, Nat.ble_eq, Bool.not_eq_true'] at hc
  obtain ⟨⟨h1, h2⟩, h3⟩ := hc
  have h3 : len * i.size ≠ 0 := fun e => by rw [e] at h3; simp at h3
  split at h
  case h_2 => cases h
  rename_i cs' hf
  cases h
  have hzs : 0 < z.cells.size := by
    rcases Nat.eq_zero_or_pos z.cells.size with h | h
    · rw [Array.length_toList, h] at h1; rw [h1] at h3; simp at h3
    · exact h
  have hff := fillL_sound ρ _ parts _ _ hf
  rw [rvL_rep ρ _ (rvL_zero hz2 ρ) len] at hff
  have hr := rep_eq z.cells hzs len
  have hsz : i.size = z.cells.size := by rw [h1]; simp
  simp only [Instr.buildSlice, Sem.run_bind, run_underlying hu, Result.andThen_ok, run_sizeOf' hi]
  rw [if_neg (by omega), if_neg h3]
  simp only [Sem.run_bind, hz1, Result.andThen_ok, Sem.run_pure, hsz, hr]
  rw [hsz] at hff
  rw [hff]
  simp only [Sem.run_bind, newRow, newObj, Sem.run, Result.andThen_ok]
  rfl

/-- Slices of a text. -/
def evSliceS (auto : Bool) (s : ByteArray) (lo hi : Option Value) : Option (Value × List Prop) :=
  match lo, hi with
  | none, none => some (.string s, [])
  | some (.int _ l), none => match need auto (0 ≤ l ∧ l ≤ s.data.toList.length) with
    | some ps => some (.string ⟨⟨s.data.toList.drop l.toNat⟩⟩, ps)
    | none => none
  | none, some (.int _ h) => match need auto (0 ≤ h ∧ h ≤ s.data.toList.length) with
    | some ps => some (.string ⟨⟨s.data.toList.take h.toNat⟩⟩, ps)
    | none => none
  | some (.int _ l), some (.int _ h) => match need auto ((0 ≤ h ∧ h ≤ s.data.toList.length) ∧ 0 ≤ l ∧ l ≤ h) with
    | some ps => some (.string ⟨⟨(s.data.toList.take h.toNat).drop l.toNat⟩⟩, ps)
    | none => none
  | _, _ => none

theorem extract_list (s : ByteArray) (a b : Nat) : s.extract a b = ⟨⟨(s.data.toList.take b).drop a⟩⟩ := by
  apply ByteArray.ext
  apply Array.ext'
  simp [List.extract_eq_take_drop, List.drop_take]

theorem run_sliceBound {P : Program} {k : IntKind} {i : Int} {y : Nat} {code : BoundsCode} (h0 : 0 ≤ i) (h1 : i ≤ y) (w : World) : (Instr.sliceBound (.int k i) y code).run P w = .ok i.toNat w := by
  simp [Instr.sliceBound, asIntOf, h0, h1]

theorem evSliceS_sound {P : Program} {auto : Bool} {t : TypeId} {s : ByteArray} {lo hi : Option Value} {v : Value} {l : List Prop} (hu : P.underlying t = some .string) (h : evSliceS auto s lo hi = some (v, l)) (hl : allP l) (ρ : Num) (w : World) :
    (Instr.sliceAt t (.string s) (lo.map (rv ρ)) (hi.map (rv ρ)) none).run P w = .ok (rv ρ v) w := by
  have hsz : s.size = s.data.toList.length := rfl
  unfold evSliceS at h
  split at h
  · cases h
    simp only [Instr.sliceAt, Instr.slice, Sem.run_bind, run_underlying hu, Result.andThen_ok, Option.map_none, Option.isSome_none, Instr.sliceBounds, pure_bind, Sem.run_pure, Bool.false_eq_true, if_false, rv]
    rw [extract_list, hsz, List.take_length, List.drop_zero]
  · rename_i k i
    split at h
    case h_2 => cases h
    rename_i ps hn
    cases h
    obtain ⟨h0, h1⟩ := need_sound hn hl
    have := run_sliceBound (P := P) (k := k) (y := s.size) (code := .sliceB) h0 (by rw [hsz]; exact h1) w
    simp only [Instr.sliceAt, Instr.slice, Sem.run_bind, run_underlying hu, Result.andThen_ok, Option.map_none, Option.map_some, Option.isSome_none, Instr.sliceBounds, pure_bind, Sem.run_pure, Bool.false_eq_true, if_false, rv, this]
    rw [extract_list, hsz, List.take_length]
  · rename_i k i
    split at h
    case h_2 => cases h
    rename_i ps hn
    cases h
    obtain ⟨h0, h1⟩ := need_sound hn hl
    have := run_sliceBound (P := P) (k := k) (y := s.size) (code := .sliceAlen) h0 (by rw [hsz]; exact h1) w
    simp only [Instr.sliceAt, Instr.slice, Sem.run_bind, run_underlying hu, Result.andThen_ok, Option.map_none, Option.map_some, Option.isSome_none, Instr.sliceBounds, pure_bind, Sem.run_pure, Bool.false_eq_true, if_false, rv, this]
    rw [extract_list, List.drop_zero]
  · rename_i k i k' j
    split at h
    case h_2 => cases h
    rename_i ps hn
    cases h
    obtain ⟨⟨h0, h1⟩, h2, h3⟩ := need_sound hn hl
    have e1 := run_sliceBound (P := P) (k := k') (y := s.size) (code := .sliceAlen) h0 (by rw [hsz]; exact h1) w
    have e2 := run_sliceBound (P := P) (k := k) (y := j.toNat) (code := .sliceB) h2 (by omega) w
    simp only [Instr.sliceAt, Instr.slice, Sem.run_bind, run_underlying hu, Result.andThen_ok, Option.map_some, Option.isSome_none, Instr.sliceBounds, pure_bind, Sem.run_pure, Bool.false_eq_true, if_false, rv, e1, e2]
    rw [extract_list]
  · cases h

/-- One step of a range over a text: is there a rune more? -/
def evNext (auto : Bool) (H : Heap) (x : Value) (ds : List Bool) : Option (Value × Heap × List Prop × List Bool) :=
  match x with
  | .pointer (some ⟨id, 0, _⟩) =>
    match H.get id with
    | some (.iter s pos) =>
      match auto with
      | true => match Nat.blt pos s.data.toList.length with
        | true => match Utf8.decode s pos with
          | (c, wd) => some (.tuple ⟨[.bool true, .int .i64 pos, .int .i32 c]⟩, H.set id (.iter s (pos + wd)), [], ds)
        | false => some (.tuple ⟨[.bool false]⟩, H, [], ds)
      | false => match ds with
        | true :: ds => some (.tuple ⟨[.bool true, .int .i64 pos, .int .i32 (Utf8.decode s pos).1]⟩, H.set id (.iter s (pos + (Utf8.decode s pos).2)), [pos < s.data.toList.length], ds)
        | false :: ds => some (.tuple ⟨[.bool false]⟩, H, [¬ pos < s.data.toList.length], ds)
        | [] => none
    | _ => none
  | _ => none

theorem run_next_more {P : Program} {w : World} {b : Nat} {sp : Option Nat} {s : ByteArray} {pos : Nat} {ty : TypeId} (hb : w.heap[b]? = some (.stringIter s pos)) (h : pos < s.size) :
    (Instr.next (.pointer (some ⟨b, 0, sp⟩)) true ty).run P w = .ok (.tuple #[.bool true, .int .i64 pos, .int .i32 (Utf8.decode s pos).1]) { w with heap := w.heap.setIfInBounds b (.stringIter s (pos + (Utf8.decode s pos).2)) } := by
  simp only [Instr.next, getObj, setObj, Sem.run_bind, Sem.run, hb, Result.andThen_ok, h, if_true]
  simp [goInt]

theorem run_next_over {P : Program} {w : World} {b : Nat} {sp : Option Nat} {s : ByteArray} {pos : Nat} {ty : TypeId} (hb : w.heap[b]? = some (.stringIter s pos)) (h : ¬ pos < s.size) :
    (Instr.next (.pointer (some ⟨b, 0, sp⟩)) true ty).run P w = .ok (.tuple #[.bool false]) w := by
  simp [Instr.next, getObj, Sem.run, hb, h]

theorem evNext_sound {P : Program} {auto : Bool} {B : Nat} {M : Nat → Prop} {ρ : Num} {H H' : Heap} {w : World} (hS : Sim P B M ρ H w) {x v : Value} {ds ds' : List Bool} {l : List Prop} {ty : TypeId}
    (h : evNext auto H x ds = some (v, H', l, ds')) (hl : allP l) : ∃ w', (Instr.next (rv ρ x) true ty).run P w = .ok (rv ρ v) w' ∧ Sim P B M ρ H' w' ∧ Keeps B M w w' ∧ w'.heap.size = w.heap.size := by
  unfold evNext at h
  split at h
  case h_2 => cases h
  rename_i id sp
  split at h
  case h_2 => cases h
  rename_i s pos hg
  obtain ⟨b, hb, hit, hown⟩ := hS.obj id _ hg
  have hsz : s.size = s.data.toList.length := rfl
  have more : pos < s.size → ∃ w', (Instr.next (rv ρ (.pointer (some ⟨id, 0, sp⟩))) true ty).run P w = .ok (rv ρ (.tuple ⟨[.bool true, .int .i64 pos, .int .i32 (Utf8.decode s pos).1]⟩)) w' ∧ Sim P B M ρ (H.set id (.iter s (pos + (Utf8.decode s pos).2))) w' ∧ Keeps B M w w' ∧ w'.heap.size = w.heap.size := by
    intro hlt
    have hblt := getElem?_lt_size hit
    refine ⟨_, ?_, hS.turn (w' := { w with heap := w.heap.setIfInBounds b (.stringIter s (pos + (Utf8.decode s pos).2)) }) hg rfl hb ⟨b, rfl, by simp [hblt], hown⟩ (fun k hk => by simp [Ne.symm hk]), ⟨rfl, rfl, rfl, by simp, fun k hk hm => ?_⟩, by simp⟩
    · simp only [rv, rAddr, hb, Option.map_some, rvA, rvL]
      exact run_next_more hit hlt
    · have : b ≠ k := fun e => by subst e; exact hown.elim (fun h => by omega) (fun h => hm h)
      simp [this]
  have over : ¬ pos < s.size → ∃ w', (Instr.next (rv ρ (.pointer (some ⟨id, 0, sp⟩))) true ty).run P w = .ok (rv ρ (.tuple ⟨[.bool false]⟩)) w' ∧ Sim P B M ρ H w' ∧ Keeps B M w w' ∧ w'.heap.size = w.heap.size := by
    intro hlt
    refine ⟨w, ?_, hS, Keeps.refl _ _ _, rfl⟩
    simp only [rv, rAddr, hb, Option.map_some, rvA, rvL]
    exact run_next_over hit hlt
  split at h
  · split at h
    · rename_i hlt
      split at h
      rename_i c wd he
      cases h
      have := more (by rw [hsz]; simpa [Nat.blt_eq] using hlt)
      rw [he] at this
      exact this
    · rename_i hlt
      cases h
      exact over (by rw [hsz]; intro hh; rw [show Nat.blt pos s.data.toList.length = true from by simpa [Nat.blt_eq] using hh] at hlt; cases hlt)
  · split at h
    · cases h; exact more hl.1
    · cases h; exact over hl.1
    · cases h

/-- Builtins on values. -/
def foldInts (f : Int → Int → Int) (k : IntKind) : Int → List Value → Option Int
  | a, [] => some a
  | a, .int _ b :: r => foldInts f k (f a b) r
  | _, _ => none

def evBuiltin (P : Program) (b : Builtin) (ts : List TypeId) (args : List Value) : Option Value :=
  match b, args with
  | .len, [x] => match ts with
    | [t] => match undF P t, x with
      | some .string, .string s => some (.int .i64 s.data.toList.length)
      | some (.array n _), _ => some (.int .i64 n)
      | some (.slice _), .slice (some _) n _ => some (.int .i64 n)
      | some (.slice _), .slice none n _ => some (.int .i64 n)
      | some (.slice _), .chan (some _) => some (.int .i64 0)
      | _, _ => none
    | _ => none
  | .cap, [x] => match ts with
    | [t] => match undF P t, x with
      | some (.slice _), .slice (some ⟨_, _, none⟩) _ c => some (.int .i64 c)
      | some (.slice _), .slice none _ c => some (.int .i64 c)
      | _, _ => none
    | _ => none
  | .min, .int k a :: r => match foldInts (fun x y => if y < x then y else x) k a r with
    | some c => some (.int k c)
    | none => none
  | .max, .int k a :: r => match foldInts (fun x y => if y > x then y else x) k a r with
    | some c => some (.int k c)
    | none => none
  | _, _ => none

theorem foldInts_min {P : Program} (ρ : Num) (w : World) (k : IntKind) : ∀ (r : List Value) (a c : Int), foldInts (fun x y => if y < x then y else x) k a r = some c → ((rvL ρ r).foldlM Builtin.min2 (.int k a)).run P w = .ok (.int k c) w
  | [], a, c, h => by simp only [foldInts] at h; cases h; rfl
  | v :: r, a, c, h => by
    unfold foldInts at h
    split at h
    · rename_i heq; cases heq
    · rename_i heq
      cases heq
      simp only [rvL, rv, List.foldlM_cons, Builtin.min2, Sem.run_bind, Sem.run_pure, Result.andThen_ok]
      exact foldInts_min ρ w k _ _ _ h
    · cases h
theorem foldInts_max {P : Program} (ρ : Num) (w : World) (k : IntKind) : ∀ (r : List Value) (a c : Int), foldInts (fun x y => if y > x then y else x) k a r = some c → ((rvL ρ r).foldlM Builtin.max2 (.int k a)).run P w = .ok (.int k c) w
  | [], a, c, h => by simp only [foldInts] at h; cases h; rfl
  | v :: r, a, c, h => by
    unfold foldInts at h
    split at h
    · rename_i heq; cases heq
    · rename_i heq
      cases heq
      simp only [rvL, rv, List.foldlM_cons, Builtin.max2, Sem.run_bind, Sem.run_pure, Result.andThen_ok]
      exact foldInts_max ρ w k _ _ _ h
    · cases h

theorem evBuiltin_sound {P : Program} {b : Builtin} {ts : List TypeId} {args : List Value} {v : Value} (h : evBuiltin P b ts args = some v) (ρ : Num) (w : World) (ty : TypeId) (consts : Array Bool) :
    (builtin b ts.toArray ty consts (rvL ρ args).toArray).run P w = .ok (.value (rv ρ v)) w := by
  unfold evBuiltin at h
  simp only [undF_eq] at h
  split at h
  · rename_i x
    split at h
    case h_2 => cases h
    rename_i t
    split at h
    · rename_i s hu; cases h; simp [builtin, Builtin.len_, rvL, rv, run_underlying hu, goInt]
    · rename_i n e hu; cases h; simp [builtin, Builtin.len_, rvL, rv, run_underlying hu, goInt]
    · rename_i e a n c hu
      cases h
      obtain ⟨x, m, ex⟩ := rSl_slice ρ a n c
      simp [builtin, Builtin.len_, rvL, rv, ex, run_underlying hu, goInt]
    · rename_i e n c hu; cases h; simp [builtin, Builtin.len_, rvL, rv, run_underlying hu, goInt]
    · rename_i e m hu
      cases h
      obtain ⟨a, q, ex⟩ := endE_slice ρ m
      simp [builtin, Builtin.len_, rvL, rv, ex, run_underlying hu, goInt]
    · cases h
  · rename_i x
    split at h
    case h_2 => cases h
    rename_i t
    split at h
    · rename_i hu; cases h; simp [builtin, Builtin.cap_, rvL, rv, rSl, run_underlying hu, goInt]
    · rename_i hu; cases h; simp [builtin, Builtin.cap_, rvL, rv, run_underlying hu, goInt]
    · cases h
  · rename_i k a r
    split at h
    · rename_i c hc
      cases h
      have := foldInts_min (P := P) ρ w k r a c hc
      simp only [builtin, Builtin.min_, rvL, rv, Sem.run_bind, this, Result.andThen_ok, Sem.run_pure]
    · cases h
  · rename_i k a r
    split at h
    · rename_i c hc
      cases h
      have := foldInts_max (P := P) ρ w k r a c hc
      simp only [builtin, Builtin.max_, rvL, rv, Sem.run_bind, this, Result.andThen_ok, Sem.run_pure]
    · cases h
  · cases h

/-! A row of bytes as a string. -/

def bytesV : List Value → Option (List Int)
  | [] => some []
  | v :: r => match v with
    | .int .u8 n => match bytesV r with
      | some l => some (n :: l)
      | none => none
    | _ => none

theorem bytesV_spec (ρ : Num) : ∀ {l : List Value} {ns : List Int}, bytesV l = some ns → rvL ρ l = ns.map (Value.int .u8)
  | [], ns, h => by simp only [bytesV] at h; cases h; simp [rvL]
  | v :: r, ns, h => by
    simp only [bytesV] at h
    split at h
    · split at h
      · rename_i l hr
        cases h
        simp [rvL, rv, bytesV_spec ρ hr]
      · cases h
    · cases h

def evBytes (P : Program) (H : Heap) (s d : TypeId) (x : Value) : Option Value :=
  match x with
  | .slice a len _ => match undF P s, undF P d with
    | some (.slice e), some .string => match undF P e with
      | some (.int .u8) => match a with
        | some ⟨id, off, _⟩ => match cellsAt H id off len with
          | some cs => match bytesV cs with
            | some ns => some (.string ⟨⟨ns.map fun n => UInt8.ofNat n.toNat⟩⟩)
            | none => none
          | none => none
        | none => some (.string ⟨⟨[]⟩⟩)
      | _ => none
    | _, _ => none
  | _ => none

theorem foldl_push (ns : List Int) : ∀ b : ByteArray, ns.foldl (fun r n => r.push (UInt8.ofNat n.toNat)) b = ⟨⟨b.data.toList ++ ns.map fun n => UInt8.ofNat n.toNat⟩⟩ := by
  induction ns with
  | nil => intro b; cases b; simp
  | cons n ns ih =>
    intro b
    rw [List.foldl_cons, ih]
    simp [ByteArray.push]

theorem evBytes_sound {P : Program} {B : Nat} {M : Nat → Prop} {ρ : Num} {H : Heap} {w : World} (hS : Sim P B M ρ H w) {s d : TypeId} {x v : Value} (h : evBytes P H s d x = some v) : (convert s d (rv ρ x)).run P w = .ok (rv ρ v) w := by
  unfold evBytes at h
  simp only [undF_eq] at h
  split at h
  case h_2 => cases h
  rename_i a len cap
  split at h
  case h_2 => cases h
  rename_i e hs hd
  split at h
  case h_2 => cases h
  rename_i he
  split at h
  case h_2 =>
    cases h
    have : (convert s d (.slice none len cap)).run P w = .ok (.string .empty) w := by
      unfold convert
      simp [run_underlying hs, run_underlying hd, run_underlying he, Conv.bytesToString]
    simp only [rv]
    exact this
  rename_i id off sp
  split at h
  case h_2 => cases h
  rename_i cs hcs
  split at h
  case h_2 => cases h
  rename_i ns hb
  cases h
  obtain ⟨b, hb1, hlen, hcell⟩ := cellsAt_sound hS hcs
  have hsp := bytesV_spec ρ hb
  have hlen' : (rvL ρ cs).length = len := by rw [rvL_eq, List.length_map]; exact hlen
  have hc := run_loadCells_list (P := P) w ⟨b, off, none⟩ (rvL ρ cs) (fun j v hj => by rw [addr_add]; exact hcell j v hj)
  rw [hlen', hsp] at hc
  have hrv : ∃ c', rv ρ (.slice (some ⟨id, off, sp⟩) len cap) = .slice (some ⟨b, off, none⟩) len c' := by
    cases sp with
    | none => exact ⟨cap, by simp [rv, rSl, rAddr, hb1]⟩
    | some k => exact ⟨_, by simp [rv, rSl, hb1]; rfl⟩
  obtain ⟨c', hrv⟩ := hrv
  rw [hrv, run_convert_bytes_string w s d e _ _ _ hs he hd, run_bytesToString w _ _ _ ns hc, foldl_push]
  simp [rv]

end
end Go.Proofs.YtaopinmjgjpiiaaGreatDoor.Ev
