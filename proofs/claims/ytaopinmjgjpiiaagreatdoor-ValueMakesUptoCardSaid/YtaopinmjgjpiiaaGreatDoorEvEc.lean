/-
  The evaluator, part Ec: copy, and bytes turned into a text where they lie.
-/
import Derived.Test.YtaopinmjgjpiiaaGreatDoorEvEb
import Derived.Lib.ConvBytes
import Derived.Lib.UnsafeStr
namespace Go.Proofs.YtaopinmjgjpiiaaGreatDoor.Ev
open Go Go.RowKit Go.Shelf
noncomputable section

def minN (a b : Nat) : Nat := match Nat.ble a b with
  | true => a
  | false => b

theorem minN_eq (a b : Nat) : minN a b = Nat.min a b := by
  unfold minN
  split
  · rename_i h; exact (Nat.min_eq_left (Nat.le_of_ble_eq_true h)).symm
  · rename_i h
    have : b ≤ a := by
      rcases Nat.lt_or_ge b a with h' | h'
      · omega
      · rw [Nat.ble_eq_true_of_le h'] at h; cases h
    exact (Nat.min_eq_right this).symm

/-- What is copied: how many elements there are, the cells of so many as go over. -/
def copyOf (H : Heap) (sz dn : Nat) (x : Value) : Option (Nat × List Value) :=
  match x with
  | .slice none n _ => match Nat.beq (minN n dn) 0 with
    | true => some (0, [])
    | false => none
  | .slice (some ⟨p, o, _⟩) m _ => match cellsAt H p o (minN m dn * sz) with
    | some cs => match cs.all one1 with
      | true => some (minN m dn, cs)
      | false => none
    | none => none
  | .string s => match Nat.beq sz 1 with
    | true => some (minN s.data.toList.length dn, byteVs (s.data.toList.take (minN s.data.toList.length dn)))
    | false => none
  | _ => none

theorem copyOf_sound {P : Program} {B : Nat} {M : Nat → Prop} {ρ : Num} {H : Heap} {w : World} (hS : Sim P B M ρ H w) {sz dn : Nat} {x : Value} {k : Nat} {news : List Value} (h : copyOf H sz dn x = some (k, news)) :
    (∃ xl, (∀ w' : World, (Builtin.lenOf (rv ρ x)).run P w' = .ok xl w') ∧ k = Nat.min xl dn) ∧ (Builtin.firstCells sz k (rv ρ x)).run P w = .ok (rvL ρ news).toArray w ∧ (∀ u ∈ rvL ρ news, u.oneCell' = true) ∧ news.length = k * sz := by
  unfold copyOf at h
  split at h
  · rename_i n c
    split at h
    case h_2 => cases h
    rename_i hz
    have hz := Nat.eq_of_beq_eq_true hz
    rw [minN_eq] at hz
    cases h
    simp only [rv]
    exact ⟨⟨n, fun _ => rfl, hz.symm⟩, run_firstCells_none w sz 0 n c, fun u hu => by simp [rvL] at hu, by simp⟩
  · rename_i p o sp m c
    split at h
    case h_2 => cases h
    rename_i cs hcs
    split at h
    case h_2 => cases h
    rename_i hone
    cases h
    obtain ⟨b, hb, hlen, hcell⟩ := cellsAt_sound hS hcs
    have hrv : ∃ c', rv ρ (.slice (some ⟨p, o, sp⟩) m c) = .slice (some ⟨b, o, none⟩) m c' := by
      cases sp with
      | none => exact ⟨c, by simp [rv, rSl, rAddr, hb]⟩
      | some k => exact ⟨_, by simp [rv, rSl, hb]; rfl⟩
    obtain ⟨c', hrv⟩ := hrv
    rw [hrv]
    refine ⟨⟨m, fun _ => rfl, minN_eq _ _⟩, run_firstCells_some w sz _ ⟨b, o, none⟩ m c' _ (by rw [rvL_eq, List.length_map]; exact hlen) (fun j u hj => by rw [addr_add]; exact hcell j u hj), fun u hu => ?_, hlen⟩
    rw [rvL_eq] at hu
    obtain ⟨u0, hu0, rfl⟩ := List.mem_map.1 hu
    exact one1_rv ρ u0 (List.all_eq_true.1 hone u0 hu0)
  · rename_i s
    split at h
    case h_2 => cases h
    rename_i hz
    have hz := Nat.eq_of_beq_eq_true hz
    subst hz
    cases h
    have hsz : s.data.toList.length = s.size := by rw [Array.length_toList]; rfl
    simp only [rv]
    rw [rvL_byteVs, hsz, minN_eq]
    refine ⟨⟨s.size, fun _ => rfl, rfl⟩, ?_, fun u hu => ?_, ?_⟩
    · simp only [Builtin.firstCells, Sem.run_pure]
      congr 1
      apply Array.ext'
      rw [Array.toList_map, ByteArray.data_extract, Array.toList_extract, byteVs_eq]
      simp [List.extract]
    · rw [byteVs_eq] at hu
      obtain ⟨_, _, rfl⟩ := List.mem_map.1 hu
      rfl
    · rw [byteVs_eq, List.length_map, List.length_take, hsz, Nat.mul_one]
      exact Nat.min_eq_left (Nat.min_le_left _ _)
  · cases h

def evCopy (P : Program) (ts : List TypeId) (H : Heap) (args : List Value) : Option (Value × Heap) :=
  match ts, args with
  | [t, _], [.slice da dn _, x] => match undF P t with
    | some (.slice e) => match infF P e with
      | some i => match copyOf H i.size dn x with
        | some (k, news) => match da with
          | none => match news with
            | [] => some (.int .i64 k, H)
            | _ => none
          | some ⟨j, off, none⟩ => match H.get j with
            | some (.cells cs e') => match Nat.ble (off + news.length) cs.length with
              | true => some (.int .i64 k, H.set j (.cells (cs.take off ++ news ++ cs.drop (off + news.length)) e'))
              | false => none
            | _ => none
          | some ⟨_, _, some _⟩ => match news with
            | [] => some (.int .i64 k, H)
            | _ => none
        | none => none
      | none => none
    | _ => none
  | _, _ => none

theorem run_copy_any {P : Program} (w w' : World) (t t2 ty e : TypeId) (i : TypeInfo) (hu : P.underlying t = some (.slice e)) (hi : P.info? e = some i) (x : Value) (xl dn dc : Nat) (hl : (Builtin.lenOf x).run P w = .ok xl w) (news : List Value)
    (hc : (Builtin.firstCells i.size (Nat.min xl dn) x).run P w = .ok news.toArray w) (base : Option Addr) (hst : ∀ a, base = some a → (storeCells a news).run P w = .ok () w') (hno : base = none → w' = w) :
    (Builtin.copy_ #[t, t2] ty #[.slice base dn dc, x]).run P w = .ok (.int .i64 (Nat.min xl dn : Nat)) w' := by
  cases base with
  | none =>
    obtain rfl := hno rfl
    simp [Builtin.copy_, run_underlying hu, hl, sizeOf, typeInfo, hi, hc, goInt]
  | some a =>
    have := hst a rfl
    simp [Builtin.copy_, run_underlying hu, hl, sizeOf, typeInfo, hi, hc, goInt, this]

theorem evCopy_sound {P : Program} {ts : List TypeId} {H H' : Heap} {n : Nat} {args : List Value} {v : Value} (h : evCopy P ts H args = some (v, H'))
    {B : Nat} {M : Nat → Prop} {ρ : Num} {w : World} (hS : ∀ ρ', Agree n ρ ρ' → Sim P B M ρ' H w) (hA : ∀ ρ', Agree n ρ ρ' → rvL ρ' args = rvL ρ args) (ty : TypeId) :
    ∃ v' w' ρ1, Agree n ρ ρ1 ∧ (Builtin.copy_ ts.toArray ty (rvL ρ args).toArray).run P w = .ok v' w' ∧ Keeps B M w w' ∧ ∀ ρ', Agree n ρ1 ρ' → v' = rv ρ' v ∧ Sim P B M ρ' H' w' := by
  unfold evCopy at h
  simp only [undF_eq, infF_eq] at h
  split at h
  case h_2 => cases h
  rename_i t t2 da dn dc x
  split at h
  case h_2 => cases h
  rename_i e hu
  split at h
  case h_2 => cases h
  rename_i i hi
  split at h
  case h_2 => cases h
  rename_i k news hcp
  have hs2 : ∀ ρ', Agree n ρ ρ' → rv ρ' (.slice da dn dc) = rv ρ (.slice da dn dc) ∧ rv ρ' x = rv ρ x := fun ρ' ha => by
    have := hA ρ' ha
    simp only [rvL, List.cons.injEq, and_true] at this
    exact this
  obtain ⟨⟨xl, hl, hk⟩, hc, hone, hlen⟩ := copyOf_sound (hS ρ (Agree.refl _ _)) hcp
  rw [hk] at hc
  split at h
  · split at h
    case h_2 => cases h
    cases h
    refine ⟨.int .i64 (Nat.min xl dn : Nat), w, ρ, Agree.refl _ _, ?_, Keeps.refl _ _ _, fun ρ' ha => ⟨?_, hS ρ' ha⟩⟩
    · simp only [rvL, rv]
      exact run_copy_any w w t t2 ty e i hu hi (rv ρ x) xl dn dc (hl w) _ hc none (fun a ha => by cases ha) (fun _ => rfl)
    · simp only [rv, hk]
  · rename_i j off
    split at h
    case h_2 => cases h
    rename_i cs e2 hget
    split at h
    case h_2 => cases h
    rename_i hfit
    have hfit := Nat.le_of_ble_eq_true hfit
    cases h
    obtain ⟨b, hb, hcells, hown⟩ := (hS ρ (Agree.refl _ _)).obj j _ hget
    have hs : rv ρ (.slice (some ⟨j, off, none⟩) dn dc) = .slice (some ⟨b, off, none⟩) dn dc := by simp [rv, rSl, rAddr, hb]
    have hbj : ∀ ρ', Agree n ρ ρ' → ρ' j = some b := fun ρ' ha => by
      have := (hs2 ρ' ha).1
      rw [hs] at this
      simp only [rv, rSl, rAddr] at this
      cases hq : ρ' j with
      | none => rw [hq] at this; cases this
      | some b' =>
        rw [hq] at this
        simp only [Option.map_some, Value.slice.injEq, Option.some.injEq, Addr.mk.injEq, and_true] at this
        rw [this]
    have hcsame : ∀ ρ', Agree n ρ ρ' → rvL ρ' cs = rvL ρ cs := fun ρ' ha => by
      obtain ⟨b', h1, h2, _⟩ := (hS ρ' ha).obj j _ hget
      rw [hbj ρ' ha] at h1
      cases h1
      rw [hcells] at h2
      injection h2 with h2
      injection h2 with h2
      have := congrArg Array.toList h2
      simpa using this.symm
    have hsame : ∀ ρ', Agree n ρ ρ' → rvL ρ' news = rvL ρ news := fun ρ' ha => by
      obtain ⟨⟨xl', hl', hk'⟩, hc', _, _⟩ := copyOf_sound (hS ρ' ha) hcp
      rw [(hs2 ρ' ha).2, hk] at hc'
      rw [hc] at hc'
      injection hc' with hc'
      have := congrArg Array.toList hc'
      simpa using this.symm
    have hnlen : (rvL ρ news).length = news.length := by rw [rvL_eq, List.length_map]
    have hclen : (rvL ρ cs).length = cs.length := by rw [rvL_eq, List.length_map]
    have hst := run_storeCells_at P b off e2 (rvL ρ news) 0 (rvL ρ cs).toArray w hcells (by simp only [List.size_toArray]; omega) hone
    simp only [Nat.add_zero] at hst
    refine ⟨.int .i64 (Nat.min xl dn : Nat), w.setRow b ((rvL ρ cs).toArray.toList.take off ++ rvL ρ news ++ (rvL ρ cs).toArray.toList.drop (off + (rvL ρ news).length)).toArray, ρ, Agree.refl _ _, ?_, ⟨rfl, rfl, rfl, by simp, fun k hk hm => setRow_other w b k _ (fun e => by subst e; exact hown.elim (fun h => by omega) hm)⟩, fun ρ' ha => ⟨?_, (hS ρ' ha).turn hget rfl (hbj ρ' ha) ⟨b, rfl, ?_, hown⟩ (fun k hk => setRow_other w b k _ hk)⟩⟩
    · simp only [rvL, hs]
      exact run_copy_any w _ t t2 ty e i hu hi (rv ρ x) xl dn dc (hl w) _ hc (some ⟨b, off, none⟩) (fun a ha => by cases ha; exact hst) (fun h => by cases h)
    · simp only [rv, hk]
    · rw [setRow_heap w b _ _ e2 _ hcells]
      congr 2
      have e1 := hcsame ρ' ha
      have e2 := hsame ρ' ha
      rw [rvL_eq, rvL_eq] at e1 e2
      simp only [rvL_eq, List.map_append, List.map_take, List.map_drop, List.length_map]
      rw [e1, e2]
  · rename_i j off kk
    split at h
    case h_2 => cases h
    cases h
    refine ⟨.int .i64 (Nat.min xl dn : Nat), w, ρ, Agree.refl _ _, ?_, Keeps.refl _ _ _, fun ρ' ha => ⟨?_, hS ρ' ha⟩⟩
    · simp only [rvL, rv, rSl]
      cases hq : ρ j with
      | none => exact run_copy_any w w t t2 ty e i hu hi (rv ρ x) xl dn 0 (hl w) _ hc none (fun a ha => by cases ha) (fun _ => rfl)
      | some b => exact run_copy_any w w t t2 ty e i hu hi (rv ρ x) xl dn _ (hl w) _ hc (some ⟨b, off, none⟩) (fun a ha => by cases ha; rfl) (fun h => by cases h)
    · simp only [rv, hk]

/-! unsafe.String, unsafe.SliceData: as Go's own library uses them. -/

def toBytes : List Value → Option (List UInt8)
  | [] => some []
  | v :: r => match v with
    | .int .u8 (.ofNat n) => match Nat.blt n 256, toBytes r with
      | true, some l => some (UInt8.ofNat n :: l)
      | _, _ => none
    | _ => none

theorem toBytes_spec : ∀ {l : List Value} {bs : List UInt8}, toBytes l = some bs → l = byteVs bs
  | [], bs, h => by simp only [toBytes] at h; cases h; rfl
  | v :: r, bs, h => by
    simp only [toBytes] at h
    split at h
    · rename_i n
      split at h
      · rename_i l hn hl
        cases h
        rw [toBytes_spec hl, byteVs]
        have hn : n < 256 := by simpa [Nat.blt_eq] using hn
        have : (UInt8.ofNat n).toNat = n := by simp [UInt8.toNat_ofNat']; omega
        rw [this]
        rfl
      · cases h
    · cases h

def byteRow (H : Heap) (j n : Nat) : Option (TypeId × List UInt8) :=
  match H.get j with
  | some (.cells cs e) => match Nat.ble n cs.length, toBytes (cs.take n) with
    | true, some l => some (e, l)
    | _, _ => none
  | some (.row e _ (.ints .u8 ns) _) => match Nat.ble n ns.length, toBytes ((ns.take n).map (.int .u8)) with
    | true, some l => some (e, l)
    | _, _ => none
  | some (.row e _ (.vals xs) _) => match Nat.ble n xs.length, toBytes (xs.take n) with
    | true, some l => some (e, l)
    | _, _ => none
  | _ => none

def evUnsStr (P : Program) (ts : List TypeId) (H : Heap) (args : List Value) : Option (Value × Heap) :=
  match ts, args with
  | [t, _], [.pointer p, .int .i64 (.ofNat n)] => match n with
    | 0 => some (.string ⟨⟨[]⟩⟩, H)
    | n + 1 => match p with
      | some ⟨j, 0, none⟩ => match byteRow H j (n + 1), undF P t with
        | some (e, l), some (.pointer e2) => match Nat.beq e e2 && Nat.beq (P.cellsOf e) 1 && Nat.ble (n + 1) 9223372036854775807 with
          | true => some (.string ⟨⟨l⟩⟩, H.set j .dead)
          | false => none
        | _, _ => none
      | _ => none
  | _, _ => none

theorem byteRow_sound {P : Program} {B : Nat} {M : Nat → Prop} {ρ : Num} {H : Heap} {w : World} (hS : Sim P B M ρ H w) {j n : Nat} {e : TypeId} {l : List UInt8} (h : byteRow H j (n + 1) = some (e, l)) :
    ∃ b cur o0, ρ j = some b ∧ H.get j = some o0 ∧ o0.rw = true ∧ RowAt w b cur e ∧ (B ≤ b ∨ M b) ∧ n + 1 ≤ cur.size ∧ l.length = n + 1 ∧ ∀ k x, l[k]? = some x → w.cell? ((⟨b, 0, none⟩ : Addr).add k) = some (.int .u8 x.toNat) := by
  have fin : ∀ (xs : List Value), toBytes (xs.take (n + 1)) = some l → n + 1 ≤ xs.length → l.length = n + 1 ∧ ∀ (k : Nat) (x : UInt8), l[k]? = some x → xs[k]? = some (Value.int .u8 x.toNat) := by
    intro xs hb hle
    have h1 := toBytes_spec hb
    have h2 := congrArg List.length h1
    rw [byteVs_eq, List.length_map, List.length_take] at h2
    refine ⟨by omega, fun k x hk => ?_⟩
    have h3 : (xs.take (n + 1))[k]? = some (.int .u8 x.toNat) := by rw [h1, byteVs_eq, List.getElem?_map, hk]; rfl
    have hlt : k < l.length := (List.getElem?_eq_some_iff.1 hk).1
    rwa [List.getElem?_take, if_pos (by omega)] at h3
  unfold byteRow at h
  split at h
  · rename_i cs e' hget
    split at h
    case h_2 => cases h
    rename_i hle hb
    have hle := Nat.le_of_ble_eq_true hle
    cases h
    obtain ⟨b, hb1, hcells, hown⟩ := hS.obj j _ hget
    obtain ⟨h1, h2⟩ := fin cs hb hle
    refine ⟨b, _, _, hb1, hget, rfl, .of hcells, hown, by simp [rvL_eq]; omega, h1, fun k x hk => ?_⟩
    rw [addr_add, Nat.zero_add, cell_of_row w b k _ _ _ hcells]
    simp [rvL_eq, h2 k x hk, rv]
  · rename_i e' sz ns kk hget
    split at h
    case h_2 => cases h
    rename_i hle hb
    have hle := Nat.le_of_ble_eq_true hle
    cases h
    obtain ⟨b, cap, cur, hb1, _, hcells, hB, _, hcs, hln, htake⟩ := (hS.obj j _ hget).row_some (by simp only [Row.list, List.length_map]; omega)
    rw [List.map_take] at hb
    obtain ⟨h1, h2⟩ := fin (ns.map (.int .u8)) hb (by simpa using hle)
    simp only [Row.list, List.length_map] at hln
    refine ⟨b, cur, _, hb1, hget, rfl, hcells, hB, by omega, h1, fun k x hk => ?_⟩
    rw [addr_add, Nat.zero_add]
    have := row_cell hcells htake (i := k) (v := .int .u8 x.toNat) (h2 k x hk)
    simpa [rv] using this
  · rename_i e' sz xs kk hget
    split at h
    case h_2 => cases h
    rename_i hle hb
    have hle := Nat.le_of_ble_eq_true hle
    cases h
    obtain ⟨b, cap, cur, hb1, _, hcells, hB, _, hcs, hln, htake⟩ := (hS.obj j _ hget).row_some (by simp only [Row.list]; omega)
    obtain ⟨h1, h2⟩ := fin xs hb hle
    simp only [Row.list] at hln
    refine ⟨b, cur, _, hb1, hget, rfl, hcells, hB, by omega, h1, fun k x hk => ?_⟩
    rw [addr_add, Nat.zero_add]
    have := row_cell hcells htake (i := k) (v := .int .u8 x.toNat) (h2 k x hk)
    simpa [rv] using this
  · cases h

theorem freeze_other (w : World) (b k n : Nat) (h : k ≠ b) : (w.freeze ⟨b, 0, none⟩ n).heap[k]? = w.heap[k]? := by
  unfold World.freeze
  split
  · rfl
  · simp only [Array.getElem?_modify]
    rw [if_neg (fun e => h e.symm)]

theorem freeze_there (w : World) (b n : Nat) {o : Obj} (h : w.heap[b]? = some o) : ∃ o', (w.freeze ⟨b, 0, none⟩ n).heap[b]? = some o' := by
  unfold World.freeze
  split
  · exact ⟨o, h⟩
  · simp only [Array.getElem?_modify, if_pos]
    rw [h]
    exact ⟨_, rfl⟩

theorem evUnsStr_sound {P : Program} {ts : List TypeId} {H H' : Heap} {n : Nat} {args : List Value} {v : Value} (h : evUnsStr P ts H args = some (v, H'))
    {B : Nat} {M : Nat → Prop} {ρ : Num} {w : World} (hS : ∀ ρ', Agree n ρ ρ' → Sim P B M ρ' H w) (hA : ∀ ρ', Agree n ρ ρ' → rvL ρ' args = rvL ρ args) (ty : TypeId) :
    ∃ v' w' ρ1, Agree n ρ ρ1 ∧ (Builtin.unsafeString_ ts.toArray ty (rvL ρ args).toArray).run P w = .ok v' w' ∧ Keeps B M w w' ∧ ∀ ρ', Agree n ρ1 ρ' → v' = rv ρ' v ∧ Sim P B M ρ' H' w' := by
  unfold evUnsStr at h
  simp only [undF_eq] at h
  split at h
  case h_2 => cases h
  rename_i t t2 p m
  split at h
  · cases h
    refine ⟨.string .empty, w, ρ, Agree.refl _ _, ?_, Keeps.refl _ _ _, fun ρ' ha => ⟨by simp [rv]; rfl, hS ρ' ha⟩⟩
    simp only [rvL, rv]
    cases p with
    | none => simp only [rv]; exact Lib.run_unsafeString_none w t t2 ty none
    | some a => simp only [rv]; exact Lib.run_unsafeString_none w t t2 ty _
  · rename_i m
    split at h
    case h_2 => cases h
    rename_i j
    split at h
    case h_2 => cases h
    rename_i e l e2 hrow hu
    split at h
    case h_2 => cases h
    rename_i hck
    simp only [Bool.and_eq_true, Nat.beq_eq, Nat.ble_eq] at hck
    obtain ⟨⟨c1, c2⟩, c3⟩ := hck
    subst c1
    cases h
    obtain ⟨b, cur, o0, hb, hget, hrw, hcells, hown, hsz, hlen, hcell⟩ := byteRow_sound (hS ρ (Agree.refl _ _)) hrow
    have hbj : ∀ ρ', Agree n ρ ρ' → ρ' j = some b := fun ρ' ha => by
      have := hA ρ' ha
      simp only [rvL, rv, rAddr, hb, Option.map_some, List.cons.injEq, and_true, Value.pointer.injEq] at this
      cases hq : ρ' j with
      | none => rw [hq] at this; cases this
      | some b' =>
        rw [hq] at this
        simp only [Option.map_some, Option.some.injEq, Addr.mk.injEq, and_true] at this
        rw [this]
    obtain ⟨fr, hcells, _⟩ := hcells
    have hrun := Lib.run_unsafeString_row (P := P) w t t2 ty e hu c2 b cur.size (by simp [World.shape?, hcells]) l (by intro e; rw [e] at hlen; cases hlen) (by omega) (by omega) hcell
    refine ⟨.string ⟨l.toArray⟩, w.freeze ⟨b, 0, none⟩ l.length, ρ, Agree.refl _ _, ?_, ⟨?_, ?_, ?_, ?_, fun k hk hm => freeze_other w b k _ (fun e => by subst e; exact hown.elim (fun h => by omega) hm)⟩, fun ρ' ha => ⟨by simp [rv], (hS ρ' ha).turn hget hrw (hbj ρ' ha) ?_ (fun k hk => freeze_other w b k _ hk)⟩⟩
    · simp only [rvL, rv, rAddr, hb, Option.map_some]
      have e3 : (Int.ofNat (m + 1)) = ((l.length : Nat) : Int) := by rw [hlen]; rfl
      rw [e3]
      exact hrun
    · unfold World.freeze; split <;> rfl
    · unfold World.freeze; split <;> rfl
    · unfold World.freeze; split <;> rfl
    · unfold World.freeze; split <;> simp
    · obtain ⟨o', ho'⟩ := freeze_there w b l.length hcells
      exact ⟨b, o', rfl, ho', hown⟩

/-- Built-in functions that look at memory and leave it alone. -/
def evLook (H : Heap) (b : Builtin) (args : List Value) : Option Value :=
  match b, args with
  | .unsafeSliceData, [x] => match x with
    | .slice none _ _ => some (.pointer none)
    | .slice (some ⟨j, off, none⟩) _ c => match Nat.beq c 0, H.get j with
      | false, some (.cells _ _) => some (.pointer (some ⟨j, off, none⟩))
      | _, _ => none
    | .slice (some ⟨j, 0, some k⟩) n 0 => match H.get j with
      | some (.row _ sz r k') => match Nat.beq k k' && Nat.blt 0 n && Nat.blt 0 sz && Nat.ble (n * sz) r.list.length with
        | true => some (.pointer (some ⟨j, 0, none⟩))
        | false => none
      | _ => none
    | _ => none
  | _, _ => none

theorem evLook_sound {P : Program} {B : Nat} {M : Nat → Prop} {ρ : Num} {H : Heap} {w : World} (hS : Sim P B M ρ H w) {b : Builtin} {args : List Value} {v : Value} (h : evLook H b args = some v) (ats : Array TypeId) (ty : TypeId) (cs : Array Bool) :
    (builtin b ats ty cs ⟨rvL ρ args⟩).run P w = .ok (.value (rv ρ v)) w := by
  unfold evLook at h
  split at h
  case h_2 => cases h
  rename_i x
  have red : ∀ y, (builtin .unsafeSliceData ats ty cs #[y]).run P w = ((Builtin.unsafeSliceData_ ats ty #[y]).run P w).andThen fun a w' => .ok (.value a) w' := by
    intro y
    simp only [builtin, Sem.run_bind, Sem.run_pure]
  have some_ : ∀ (a : Addr) (n c : Nat), c ≠ 0 → (Builtin.unsafeSliceData_ ats ty #[.slice (some a) n c]).run P w = .ok (.pointer (some a)) w := by
    intro a n c hc
    have hdef : Builtin.unsafeSliceData_ ats ty #[.slice (some a) n c] =
        (do
          if c ≠ 0 then pure (.pointer (some a))
          else if (← viewAt a.block).isSome then pure (.pointer (some a))
          else pure (.pointer (some ⟨← newObj (.view a (← elemOf ty)), 0, none⟩))) := rfl
    rw [hdef]
    simp [hc]
  split at h
  · cases h
    simp only [rvL, rv]
    rw [red]
    rfl
  · rename_i j off n c
    split at h
    case h_2 => cases h
    rename_i hc hget
    have hc : c ≠ 0 := fun e => by rw [e] at hc; cases hc
    cases h
    obtain ⟨g, hg, _⟩ := hS.obj j _ hget
    simp only [rvL, rv, rSl, rAddr, hg, Option.map_some]
    rw [red, some_ _ _ _ hc]
    rfl
  · rename_i j k n
    split at h
    case h_2 => cases h
    rename_i e sz r k' hget
    split at h
    case h_2 => cases h
    rename_i hck
    simp only [Bool.and_eq_true, Nat.beq_eq, Nat.blt_eq, Nat.ble_eq] at hck
    obtain ⟨⟨⟨c1, c2⟩, c3⟩, c4⟩ := hck
    subst c1
    cases h
    have hpos : 0 < n * sz := Nat.mul_pos c2 c3
    obtain ⟨g, cap, cur, h1, h2, _, _, _, _, h7, _⟩ := (hS.obj j _ hget).row_some (by omega)
    have hcap : cap ≠ 0 := fun e => by rw [e, Nat.zero_mul] at h7; omega
    simp only [rvL, rv, rSl, rAddr, h1, h2, Option.map_some, Option.getD_some, Nat.sub_zero]
    rw [red, some_ _ _ _ hcap]
    rfl
  · cases h

/-- Numbers that lie in a block. -/
def intsIn : AObj → Option (IntKind × List Int)
  | .ints k xs => some (k, xs)
  | .row _ sz (.ints k ns) _ => match Nat.beq sz 1 with
    | true => some (k, ns)
    | false => none
  | _ => none

theorem intsIn_sound {B : Nat} {M : Nat → Prop} {ρ : Num} {w : World} {ob : Option Nat} {o : AObj} {k : IntKind} {xs : List Int} (ho : ORep B M ρ w ob o) (h : intsIn o = some (k, xs)) (hx : 0 < xs.length) :
    ∃ b, ob = some b ∧ ∀ i, i < xs.length → w.cell? ⟨b, i, none⟩ = some (.int k (xs.getD i 0)) := by
  unfold intsIn at h
  split at h
  · cases h
    rcases ho with ⟨_, h2⟩ | ⟨b, cs, t, fr, h1, h2, h3⟩
    · rw [h2] at hx; simp at hx
    · exact ⟨b, h1, fun i hi => by simp only [World.cell?, h2]; exact h3 i hi⟩
  · split at h
    case h_2 => cases h
    cases h
    rcases ho with ⟨_, h2⟩ | ⟨b, cap, cur, h1, h2, h3, h4, h5, h6, h7, h8⟩
    · have : xs = [] := by simpa [Row.list] using h2
      rw [this] at hx; simp at hx
    · refine ⟨b, h1, fun i hi => ?_⟩
      have := row_cell (ρ := ρ) (i := i) (v := .int k (xs.getD i 0)) h3 h8 (by simp [Row.list, List.getD, hi])
      simpa [rv] using this
  · cases h

/-- Copying numbers, how many soever. -/
def evCopyI (P : Program) (auto : Bool) (ts : List TypeId) (H : Heap) (args : List Value) : Option (Value × Heap × List Prop) :=
  match auto with
  | true => none
  | false => match ts, args with
    | [t, _], [.slice (some ⟨j, off, some _⟩) dn _, .slice (some ⟨p, o, _⟩) m _] => match undF P t with
      | some (.slice e) => match infF P e with
        | some i => match H.get j, H.get p with
          | some (.row e' sz (.ints kd ns) k'), some src => match intsIn src with
            | some (kd', xs) => match decide (kd' = kd) && Nat.beq i.size 1 && Nat.beq sz 1 with
              | true => some (.int .i64 m, H.set j (.row e' sz (.ints kd (ns.take off ++ (xs.drop o).take m ++ ns.drop (off + m))) k'), [0 < m ∧ m ≤ dn ∧ off + m ≤ ns.length ∧ o + m ≤ xs.length])
              | false => none
            | none => none
          | _, _ => none
        | none => none
      | _ => none
    | _, _ => none

theorem rSl_at {ρ : Num} {j off : Nat} {sp : Option Nat} {n c b : Nat} (h : ρ j = some b) : ∃ c', rv ρ (.slice (some ⟨j, off, sp⟩) n c) = .slice (some ⟨b, off, none⟩) n c' := by
  cases sp with
  | none => exact ⟨c, by simp [rv, rSl, rAddr, h]⟩
  | some k => exact ⟨_, by simp [rv, rSl, h]; rfl⟩

theorem evCopyI_sound {P : Program} {auto : Bool} {ts : List TypeId} {H H' : Heap} {n : Nat} {args : List Value} {v : Value} {l : List Prop} (h : evCopyI P auto ts H args = some (v, H', l)) (hl : allP l)
    {B : Nat} {M : Nat → Prop} {ρ : Num} {w : World} (hS : ∀ ρ', Agree n ρ ρ' → Sim P B M ρ' H w) (hA : ∀ ρ', Agree n ρ ρ' → rvL ρ' args = rvL ρ args) (ty : TypeId) :
    ∃ v' w' ρ1, Agree n ρ ρ1 ∧ (Builtin.copy_ ts.toArray ty (rvL ρ args).toArray).run P w = .ok v' w' ∧ Keeps B M w w' ∧ ∀ ρ', Agree n ρ1 ρ' → v' = rv ρ' v ∧ Sim P B M ρ' H' w' := by
  unfold evCopyI at h
  simp only [undF_eq, infF_eq] at h
  split at h
  · cases h
  split at h
  case h_2 => cases h
  rename_i t t2 j off kk dn dc p o sp m mc
  split at h
  case h_2 => cases h
  rename_i e hu
  split at h
  case h_2 => cases h
  rename_i i hi
  split at h
  case h_2 => cases h
  rename_i e' sz kd ns k' src hget hsrc
  split at h
  case h_2 => cases h
  rename_i kd' xs hin
  split at h
  case h_2 => cases h
  rename_i hc
  simp only [Bool.and_eq_true, decide_eq_true_eq, Nat.beq_eq] at hc
  obtain ⟨⟨rfl, hs1⟩, hs2⟩ := hc
  subst hs2
  cases h
  obtain ⟨hm0, hmd, hmn, hmx⟩ := hl.1
  have hr0 : 0 < (Row.ints kd' ns).list.length := by simp [Row.list]; omega
  have hat : ∀ ρ', Agree n ρ ρ' → ρ' j = ρ j ∧ ρ' p = ρ p := fun ρ' ha => by
    have e := hA ρ' ha
    simp only [rvL, List.cons.injEq, and_true] at e
    obtain ⟨b1, cap1, cur1, g1, _⟩ := ((hS ρ (Agree.refl _ _)).obj j _ hget).row_some hr0
    obtain ⟨b2, cap2, cur2, g2, _⟩ := ((hS ρ' ha).obj j _ hget).row_some hr0
    obtain ⟨b3, g3, _⟩ := intsIn_sound ((hS ρ (Agree.refl _ _)).obj p _ hsrc) hin (by omega)
    obtain ⟨b4, g4, _⟩ := intsIn_sound ((hS ρ' ha).obj p _ hsrc) hin (by omega)
    obtain ⟨c1, q1⟩ := rSl_at (off := off) (sp := some kk) (n := dn) (c := dc) g1
    obtain ⟨c2, q2⟩ := rSl_at (off := off) (sp := some kk) (n := dn) (c := dc) g2
    obtain ⟨c3, q3⟩ := rSl_at (off := o) (sp := sp) (n := m) (c := mc) g3
    obtain ⟨c4, q4⟩ := rSl_at (off := o) (sp := sp) (n := m) (c := mc) g4
    have e1 := e.1
    have e2 := e.2
    rw [q1, q2] at e1
    rw [q3, q4] at e2
    simp only [Value.slice.injEq, Option.some.injEq, Addr.mk.injEq] at e1 e2
    rw [g1, g2, g3, g4, e1.1.1, e2.1.1]
    exact ⟨rfl, rfl⟩
  obtain ⟨b1, cap1, cur1, g1, _, ⟨fr1, gc, _⟩, _⟩ := ((hS ρ (Agree.refl _ _)).obj j _ hget).row_some hr0
  obtain ⟨b3, g3, gx⟩ := intsIn_sound ((hS ρ (Agree.refl _ _)).obj p _ hsrc) hin (by omega)
  obtain ⟨c1, q1⟩ := rSl_at (off := off) (sp := some kk) (n := dn) (c := dc) g1
  obtain ⟨c3, q3⟩ := rSl_at (off := o) (sp := sp) (n := m) (c := mc) g3
  have hlen : ((xs.drop o).take m).length = m := by simp; omega
  have hput := fun (ρ' : Num) (ha : Agree n ρ ρ') => rowPut (off := off) (r' := .ints kd' (ns.take off ++ (xs.drop o).take m ++ ns.drop (off + m))) (news := ((xs.drop o).take m).map (Value.int kd')) (hS ρ' ha)
    (rvL_pure _ _ (by rw [pureL_eq, List.all_eq_true]; intro x hx; obtain ⟨y, _, rfl⟩ := List.mem_map.1 hx; rfl)) hget (by simp only [List.length_map, hlen, Row.list]; omega) (fun x hx => by
      obtain ⟨y, _, rfl⟩ := List.mem_map.1 hx
      rfl) hr0 (by simp only [Row.list, List.map_append, List.map_take, List.map_drop, List.length_map, List.length_take, List.length_drop]; congr 2; omega) ((hat ρ' ha).1.trans g1) gc
  have hcs : (Builtin.firstCells i.size (Nat.min m dn) (.slice (some ⟨b3, o, none⟩) m c3)).run P w = .ok (((xs.drop o).take m).map (Value.int kd')).toArray w := by
    have hmm : Nat.min m dn = m := Nat.min_eq_left hmd
    rw [hmm, hs1]
    have := run_loadCells_list (P := P) w ⟨b3, o, none⟩ (((xs.drop o).take m).map (Value.int kd')) (fun q v hq => by
      rw [addr_add]
      rw [List.getElem?_map] at hq
      cases hv : ((xs.drop o).take m)[q]? with
      | none => rw [hv] at hq; cases hq
      | some y =>
        rw [hv] at hq
        cases hq
        rw [List.getElem?_take] at hv
        split at hv
        case isFalse => cases hv
        rw [List.getElem?_drop] at hv
        have hlt := (List.getElem?_eq_some_iff.1 hv).1
        rw [gx (o + q) hlt]
        simp [List.getD, hv])
    rw [List.length_map, hlen] at this
    simpa [Builtin.firstCells] using this
  have hrun := run_copy_any (P := P) w _ t t2 ty e i hu hi (.slice (some ⟨b3, o, none⟩) m c3) m dn c1 (by simp [Builtin.lenOf]) _ hcs (some ⟨b1, off, none⟩) (fun a ha => by cases ha; exact (hput ρ (Agree.refl _ _)).1) (fun h => by cases h)
  refine ⟨.int .i64 (Nat.min m dn : Nat), _, ρ, Agree.refl _ _, ?_, (hput ρ (Agree.refl _ _)).2.2, fun ρ' ha => ⟨?_, (hput ρ' ha).2.1⟩⟩
  · simp only [rvL, q1, q3]
    exact hrun
  · have hmm : Nat.min m dn = m := Nat.min_eq_left hmd
    simp only [rv, hmm]

/-- Built-in functions that turn memory, but lay none. -/
def isEff : Builtin → Bool
  | .copy => true
  | .unsafeString => true
  | _ => false

def evEffB (P : Program) (auto : Bool) (b : Builtin) (ts : List TypeId) (H : Heap) (args : List Value) : Option (Value × Heap × List Prop) :=
  match b with
  | .copy => match evCopyI P auto ts H args with
    | some r => some r
    | none => match evCopy P ts H args with
      | some (v, h) => some (v, h, [])
      | none => none
  | .unsafeString => match evUnsStr P ts H args with
    | some (v, h) => some (v, h, [])
    | none => none
  | _ => none

theorem evEffB_sound {P : Program} {auto : Bool} {b : Builtin} {ts : Array TypeId} {H H' : Heap} {n : Nat} {args : List Value} {v : Value} {l : List Prop} (h : evEffB P auto b ts.toList H args = some (v, H', l)) (hl : allP l)
    {B : Nat} {M : Nat → Prop} {ρ : Num} {w : World} (hS : ∀ ρ', Agree n ρ ρ' → Sim P B M ρ' H w) (hA : ∀ ρ', Agree n ρ ρ' → rvL ρ' args = rvL ρ args) (ty : TypeId) (cs : Array Bool) :
    ∃ v' w' ρ1, Agree n ρ ρ1 ∧ (builtin b ts ty cs (rvL ρ args).toArray).run P w = .ok (.value v') w' ∧ Keeps B M w w' ∧ ∀ ρ', Agree n ρ1 ρ' → v' = rv ρ' v ∧ Sim P B M ρ' H' w' := by
  have : (ts.toList.toArray : Array TypeId) = ts := by simp
  unfold evEffB at h
  split at h
  · split at h
    · rename_i hc
      cases h
      obtain ⟨v', w', ρ1, h1, h2, h3, h4⟩ := evCopyI_sound hc hl hS hA ty
      refine ⟨v', w', ρ1, h1, ?_, h3, h4⟩
      rw [this] at h2
      simp [builtin, h2]
    split at h
    case h_2 => cases h
    rename_i hc
    cases h
    obtain ⟨v', w', ρ1, h1, h2, h3, h4⟩ := evCopy_sound hc hS hA ty
    refine ⟨v', w', ρ1, h1, ?_, h3, h4⟩
    rw [this] at h2
    simp [builtin, h2]
  · split at h
    case h_2 => cases h
    rename_i hc
    cases h
    obtain ⟨v', w', ρ1, h1, h2, h3, h4⟩ := evUnsStr_sound hc hS hA ty
    refine ⟨v', w', ρ1, h1, ?_, h3, h4⟩
    rw [this] at h2
    simp [builtin, h2]
  · cases h

/-! A text's bytes in a row of their own. -/

def bytesI : List UInt8 → List Int
  | [] => []
  | b :: r => Int.ofNat b.toNat :: bytesI r

theorem bytesI_eq (l : List UInt8) : bytesI l = l.map fun b => Int.ofNat b.toNat := by
  induction l with
  | nil => rfl
  | cons b r ih => simp [bytesI, ih]

/-- '[]byte(text)'; 'make' of numbers, how many soever: the row's type, its kind, what lies in it, the slice's length, what is asked. -/
def s2b (P : Program) (auto : Bool) (ev : Operand → Option Value) (o : Op) : Option (TypeId × IntKind × List Int × Nat × List Prop) :=
  match o with
  | .convert s d x => match ev x with
    | some (.string b) => match undF P s, undF P d with
      | some .string, some (.slice e) => match undF P e with
        | some (.int .u8) => match auto with
          | true => match Nat.ble b.data.toList.length 9223372036854775807 with
            | true => some (e, .u8, bytesI b.data.toList, b.data.toList.length, [])
            | false => none
          | false => some (e, .u8, bytesI b.data.toList, b.data.toList.length, [b.data.toList.length ≤ 9223372036854775807])
        | _ => none
      | _, _ => none
    | _ => none
  | .makeSlice t len cap => match auto with
    | true => none
    | false => match ev len, ev cap with
      | some (.int _ l), some (.int _ c) => match undF P t with
        | some (.slice e) => match undF P e, infF P e with
          | some (.int k), some inf => match inf.zero with
            | some z => match z with
              | .int k' (.ofNat 0) => match decide (k' = k) && Nat.beq inf.size 1 with
                | true => some (e, k, List.replicate l.toNat 0, l.toNat, [0 ≤ l ∧ c = l ∧ (inf.bytes : Int) * l ≤ 281474976710656 ∧ l ≤ 9223372036854775807])
                | false => none
              | _ => none
            | none => none
          | _, _ => none
        | _ => none
      | _, _ => none
  | _ => none

theorem s2b_sound {P : Program} {s d e : TypeId} {b : ByteArray} (hs : P.underlying s = some .string) (hd : P.underlying d = some (.slice e)) (he : P.underlying e = some (.int .u8)) (hl : b.size ≤ maxLen)
    {B : Nat} {M : Nat → Prop} {w : World} (hB : B ≤ w.heap.size) (n : Nat) :
    ∃ w' cap, (convert s d (.string b)).run P w = .ok (.slice (some ⟨w.heap.size, 0, none⟩) b.size cap) w' ∧ Keeps B M w w' ∧ ∀ (ρ' : Num) (H : Heap), Sim P B M ρ' H w → ρ' n = some w.heap.size → ρ' (n + 1) = some cap →
      Sim P B M ρ' ((n, .row e 1 (.ints .u8 (bytesI b.data.toList)) (n + 1)) :: H) w' := by
  refine ⟨Lib.bytesWorld w e b, _, Lib.run_convert_string_bytes w s d e b hs hd he, ⟨?_, ?_, ?_, ?_, fun k hk _ => Lib.bytesWorld_at_old w e b k (by omega)⟩, fun ρ' H hS h1 h2 => ?_⟩
  · unfold Lib.bytesWorld World.freeze; split <;> rfl
  · unfold Lib.bytesWorld World.freeze; split <;> rfl
  · unfold Lib.bytesWorld World.freeze; split <;> rfl
  · rw [Lib.bytesWorld_size]; omega
  have hge := grownCap_ge w b.size 0 e
  have hsz : (Lib.bytesCells w e b).size = grownCap w b.size 0 e * 1 := by
    have hbs : b.data.size = b.size := rfl
    simp only [Lib.bytesCells, Array.size_append, Array.size_map, Array.size_replicate, hbs]
    omega
  have hll : (bytesI b.data.toList).length = b.size := by rw [bytesI_eq, List.length_map, Array.length_toList]; rfl
  refine Sim.row hS (fun i o _ hi => ⟨hi, fun e => ?_⟩) h1 h2 ⟨_, Lib.bytesWorld_at_new w e b, .inr (Nat.le_refl _)⟩ (.inl hB) (grownCap_le_maxLen w _ _ e hl) hsz ?_ ?_ (fun k hk _ => Lib.bytesWorld_at_old w _ b k hk)
  · have := hS.obj i o hi
    rw [e] at this
    exact absurd this.lt (Nat.lt_irrefl _)
  · simp only [Row.list, List.length_map, hll]; omega
  · simp only [Row.list, List.length_map, hll]
    have e1 : rvL ρ' ((bytesI b.data.toList).map (Value.int .u8)) = (b.data.map fun c => Value.int .u8 c.toNat).toList := by
      rw [bytesI_eq, rvL_eq, Array.toList_map, List.map_map, List.map_map]
      refine List.map_congr_left fun c _ => ?_
      simp [rv]
    rw [e1, Lib.bytesCells, Array.toList_append]
    have e2 : b.size = (b.data.map fun c => Value.int .u8 c.toNat).toList.length := by rw [Array.length_toList, Array.size_map]; rfl
    rw [e2]
    exact List.take_left

theorem madeL_ints (k : IntKind) : ∀ c, madeL [Value.int k 0] c = (List.replicate c 0).map (Value.int k)
  | 0 => rfl
  | c + 1 => by simp [madeL, madeL_ints k c, List.replicate_succ]

theorem s2b_run {P : Program} {auto : Bool} {ev : Operand → Option Value} {a : Operand → Value} {o : Oper} {e : TypeId} {k : IntKind} {ns : List Int} {m : Nat} {ob : List Prop} (h : s2b P auto ev o.op = some (e, k, ns, m, ob)) (hl : allP ob)
    {ρ : Num} (he : ∀ x ∈ o.op.operands.toList, ∀ y, ev x = some y → a x = rv ρ y) {B : Nat} {M : Nat → Prop} {w : World} (hB : B ≤ w.heap.size) (n : Nat) :
    (∀ c, o.op ≠ .defer c) ∧ ∃ w' cap, (execOp a o).run P w = .ok (.value (.slice (some ⟨w.heap.size, 0, none⟩) m cap)) w' ∧ Keeps B M w w' ∧ ∀ (ρ' : Num) (H : Heap), Sim P B M ρ' H w → ρ' n = some w.heap.size → ρ' (n + 1) = some cap →
      Sim P B M ρ' ((n, .row e 1 (.ints k ns) (n + 1)) :: H) w' := by
  unfold s2b at h
  simp only [undF_eq, infF_eq] at h
  split at h
  · rename_i s d x ho
    split at h
    case h_2 => cases h
    rename_i b hx
    split at h
    case h_2 => cases h
    rename_i e0 hs hd
    split at h
    case h_2 => cases h
    rename_i he0
    have hb : b.size ≤ maxLen ∧ e0 = e ∧ IntKind.u8 = k ∧ bytesI b.data.toList = ns ∧ b.data.toList.length = m := by
      split at h
      · split at h
        case h_2 => cases h
        rename_i hle
        cases h
        have hle := Nat.le_of_ble_eq_true hle
        rw [Array.length_toList] at hle
        exact ⟨hle, rfl, rfl, rfl, rfl⟩
      · cases h
        have hle : b.data.toList.length ≤ 9223372036854775807 := hl.1
        rw [Array.length_toList] at hle
        exact ⟨hle, rfl, rfl, rfl, rfl⟩
    obtain ⟨hle, rfl, rfl, rfl, rfl⟩ := hb
    obtain ⟨w', cap, hrun, hk, hsim⟩ := s2b_sound (P := P) (M := M) hs hd he0 hle hB n
    refine ⟨(by rw [ho]; intro c hc; cases hc), w', cap, ?_, hk, hsim⟩
    simp only [execOp, ho, Sem.run_bind]
    rw [he x (by rw [ho]; simp [Op.operands]) _ hx]
    simp only [rv, hrun, Array.length_toList]
    rfl
  · rename_i t len cap ho
    split at h
    · cases h
    split at h
    case h_2 => cases h
    rename_i kl l kc c hlen hcap
    split at h
    case h_2 => cases h
    rename_i e0 ht
    split at h
    case h_2 => cases h
    rename_i k0 inf hk hinf
    split at h
    case h_2 => cases h
    rename_i z hz
    split at h
    case h_2 => cases h
    rename_i k'
    split at h
    case h_2 => cases h
    rename_i hc
    simp only [Bool.and_eq_true, decide_eq_true_eq, Nat.beq_eq] at hc
    obtain ⟨rfl, hsz⟩ := hc
    cases h
    obtain ⟨h0, rfl, h1, h2⟩ := hl.1
    have hrun := run_make (P := P) w t e inf (.int k 0) ht hinf hz kl kc c c h0 (Int.le_refl _) h1 h2
    rw [madeL_eq (z := (Value.int k 0).cells) (by rw [hsz]; rfl)] at hrun
    have hml : madeL (Value.int k 0).cells.toList c.toNat = (List.replicate c.toNat 0).map (Value.int k) := madeL_ints k c.toNat
    rw [hml] at hrun
    refine ⟨(by rw [ho]; intro c hc; cases hc), w.alloc (.cells ((List.replicate c.toNat 0).map (Value.int k)).toArray e), c.toNat, ?_, Keeps.of_below ((Below.refl _ _).alloc (Nat.le_refl _) _) hB, fun ρ' H hS g1 g2 => ?_⟩
    · simp only [execOp, ho]
      rw [he len (by simp [ho, Op.operands]) _ hlen, he cap (by simp [ho, Op.operands]) _ hcap]
      simp only [rv, Sem.run_bind, hrun]
      rfl
    · have e1 : rvL ρ' ((List.replicate c.toNat (0 : Int)).map (Value.int k)) = (List.replicate c.toNat (0 : Int)).map (Value.int k) := rvL_pure _ _ (by rw [pureL_eq]; simp [pureV])
      refine Sim.row hS (fun i o _ hi => ⟨hi, fun e => ?_⟩) g1 g2 (.of (heap_alloc_new _ _)) (.inl hB) (by unfold maxLen; omega) (by simp) (by simp [Row.list]) ?_ (fun k hk _ => heap_alloc_old _ _ hk)
      · have := hS.obj i o hi
        rw [e] at this
        exact absurd this.lt (Nat.lt_irrefl _)
      · simp only [Row.list]
        rw [e1]
        simp
  · cases h

end
end Go.Proofs.YtaopinmjgjpiiaaGreatDoor.Ev
