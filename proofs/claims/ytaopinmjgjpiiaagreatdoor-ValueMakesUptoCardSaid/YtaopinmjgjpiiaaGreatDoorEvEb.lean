/-
  The evaluator, part Eb: append: rows that grow.
-/
import Derived.Test.YtaopinmjgjpiiaaGreatDoorEvE
import Derived.Laws.AppendOwn
import Derived.Deep.AppendSrc
namespace Go.Proofs.YtaopinmjgjpiiaaGreatDoor.Ev
open Go Go.RowKit Go.Shelf
noncomputable section

def Heap.del (j : Nat) : Heap → Heap
  | [] => []
  | (i, o) :: r => match Nat.beq i j with
    | true => Heap.del j r
    | false => (i, o) :: Heap.del j r

theorem Heap.get_del (j : Nat) : ∀ (H : Heap) (i : Nat) (o : AObj), (Heap.del j H).get i = some o → H.get i = some o ∧ i ≠ j
  | [], i, o, h => by simp [Heap.del, Heap.get] at h
  | (k, q) :: r, i, o, h => by
    unfold Heap.del at h
    split at h
    · rename_i hk
      have hk := Nat.eq_of_beq_eq_true hk
      subst hk
      obtain ⟨h1, h2⟩ := Heap.get_del k r i o h
      rw [Heap.get_cons, if_neg (fun e => h2 e.symm)]
      exact ⟨h1, h2⟩
    · rename_i hk
      rw [Heap.get_cons] at h ⊢
      split at h
      · rename_i e; subst e
        refine ⟨by rw [if_pos rfl]; exact h, fun e => ?_⟩
        rw [e, Nat.beq_refl] at hk
        cases hk
      · rename_i e
        obtain ⟨h1, h2⟩ := Heap.get_del j r i o h
        exact ⟨by rw [if_neg e]; exact h1, h2⟩

theorem Heap.get_del_of (j : Nat) : ∀ (H : Heap) (i : Nat), i ≠ j → (Heap.del j H).get i = H.get i
  | [], _, _ => rfl
  | (k, q) :: r, i, hi => by
    unfold Heap.del
    split
    · rename_i hk
      have hk := Nat.eq_of_beq_eq_true hk
      subst hk
      rw [Heap.get_cons, if_neg (fun e => hi e.symm)]
      exact Heap.get_del_of k r i hi
    · rw [Heap.get_cons, Heap.get_cons, Heap.get_del_of j r i hi]

def toInts (k : IntKind) : List Value → Option (List Int)
  | [] => some []
  | v :: r => match v with
    | .int k' n => if k' = k then (match toInts k r with
      | some l => some (n :: l)
      | none => none) else none
    | _ => none

theorem toInts_spec {k : IntKind} : ∀ {vs : List Value} {l : List Int}, toInts k vs = some l → vs = l.map (Value.int k)
  | [], l, h => by simp only [toInts] at h; cases h; rfl
  | v :: r, l, h => by
    simp only [toInts] at h
    split at h
    · split at h
      · rename_i hk
        subst hk
        split at h
        · rename_i l' hl
          cases h
          rw [toInts_spec hl]
          rfl
        · cases h
      · cases h
    · cases h

def addRow (r : Row) (news : List Value) : Option Row :=
  match r with
  | .vals xs => some (.vals (xs ++ news))
  | .ints k ns => match toInts k news with
    | some l => some (.ints k (ns ++ l))
    | none => none

theorem addRow_spec {r r' : Row} {news : List Value} (h : addRow r news = some r') : r'.list = r.list ++ news := by
  unfold addRow at h
  split at h
  · cases h; rfl
  · split at h
    · rename_i l hl
      cases h
      rw [toInts_spec hl]
      simp [Row.list]
    · cases h

def newRow' (news : List Value) : Row :=
  match news with
  | .int k _ :: _ => match toInts k news with
    | some l => .ints k l
    | none => .vals news
  | _ => .vals news

theorem newRow'_spec (news : List Value) : (newRow' news).list = news := by
  unfold newRow'
  split
  · split
    · rename_i l hl; rw [Row.list]; exact (toInts_spec hl).symm
    · rfl
  · rfl

def byteVs : List UInt8 → List Value
  | [] => []
  | b :: r => .int .u8 b.toNat :: byteVs r

theorem byteVs_eq (l : List UInt8) : byteVs l = l.map fun b => Value.int .u8 b.toNat := by
  induction l with
  | nil => rfl
  | cons b r ih => simp [byteVs, ih]

/-- What is appended: how many elements, their cells. -/
def newsOf (H : Heap) (sz : Nat) (x : Value) : Option (Nat × List Value) :=
  match x with
  | .slice (some ⟨p, o, _⟩) m _ => match cellsAt H p o (m * sz) with
    | some cs => match cs.all one1 && Nat.blt 0 m with
      | true => some (m, cs)
      | false => none
    | none => none
  | .string s => match Nat.beq sz 1 && Nat.blt 0 s.data.toList.length with
    | true => some (s.data.toList.length, byteVs s.data.toList)
    | false => none
  | _ => none

/-- Nothing is appended. -/
def noNews (x : Value) : Bool :=
  match x with
  | .slice none 0 _ => true
  | .slice (some ⟨_, _, none⟩) 0 _ => true
  | .string s => Nat.beq s.data.toList.length 0
  | _ => false

def srcT (d : TypeDesc) : Bool :=
  match d with
  | .slice _ => true
  | .string => true
  | _ => false

def rowLen : Row → Nat
  | .vals xs => xs.length
  | .ints _ ns => ns.length

theorem rowLen_eq (r : Row) : rowLen r = r.list.length := by cases r <;> simp [rowLen, Row.list]

def evAppend (P : Program) (auto : Bool) (ts : List TypeId) (H : Heap) (n : Nat) (args : List Value) : Option (Value × Heap × List Prop) :=
  match ts, args with
  | [t, t2], [s, x] => match undF P t, undF P t2 with
    | some (.slice e), some d => match srcT d, infF P e with
      | true, some i => match i.zero with
        | none => none
        | some z => match Nat.blt 0 i.size && Nat.beq z.cells.size i.size, newsOf H i.size x with
          | true, some (m, news) => match s with
            | .slice none 0 0 => match need auto (m * i.bytes ≤ 140737488355328 ∧ m ≤ 9223372036854775807) with
              | some l => some (.slice (some ⟨n, 0, some (n + 1)⟩) m 0, (n, .row e i.size (newRow' news) (n + 1)) :: H, l)
              | none => none
            | .slice (some ⟨j, 0, some k⟩) n0 0 => match H.get j with
              | some (.row e' sz r k') => match Nat.beq e' e && Nat.beq sz i.size && Nat.beq k' k, addRow r news, need auto (n0 * i.size = rowLen r ∧ (n0 + m) * i.bytes ≤ 140737488355328 ∧ n0 + m ≤ 9223372036854775807) with
                | true, some r', some l => some (.slice (some ⟨n, 0, some (n + 1)⟩) (n0 + m) 0, (n, .row e i.size r' (n + 1)) :: Heap.del j H, l)
                | _, _, _ => none
              | _ => none
            | .slice (some ⟨j, off, none⟩) n0 c => match H.get j with
              | some (.cells cs e') => match Nat.ble (n0 + m) c with
                | true => match Nat.ble (off + n0 * i.size + news.length) cs.length with
                  | true => some (.slice (some ⟨j, off, none⟩) (n0 + m) c, H.set j (.cells (cs.take (off + n0 * i.size) ++ news ++ cs.drop (off + n0 * i.size + news.length)) e'), [])
                  | false => none
                | false => match Nat.ble (off + n0 * i.size) cs.length, need auto ((n0 + m) * i.bytes ≤ 140737488355328 ∧ n0 + m ≤ 9223372036854775807 ∧ c ≤ n0 + m) with
                  | true, some l => some (.slice (some ⟨n, 0, some (n + 1)⟩) (n0 + m) 0, (n, .row e i.size (newRow' (((cs.drop off).take (n0 * i.size)) ++ news)) (n + 1)) :: H, l)
                  | _, _ => none
              | _ => none
            | _ => none
          | true, none => match noNews x with
            | true => match s with
              | .slice none 0 0 => some (s, H, [])
              | .slice (some ⟨_, _, none⟩) n0 c => match Nat.ble n0 c with
                | true => some (s, H, [])
                | false => none
              | _ => none
            | false => none
          | _, _ => none
      | _, _ => none
    | _, _ => none
  | _, _ => none

def isApp : Builtin → Bool
  | .append => true
  | _ => false

theorem isApp_spec {b : Builtin} (h : isApp b = true) : b = .append := by
  cases b <;> first | rfl | (cases h; done)

theorem ORep.same {B : Nat} {M : Nat → Prop} {ρ : Num} {w w' : World} {ob : Option Nat} {o : AObj} (h : ORep B M ρ w ob o) (hb : ∀ b, ob = some b → w'.heap[b]? = w.heap[b]?) : ORep B M ρ w' ob o := by
  cases o with
  | row e sz r k =>
    rcases h with h | ⟨b, cap, cur, h1, h2, h3, h4⟩
    · exact .inl h
    · exact .inr ⟨b, cap, cur, h1, h2, h3.to (hb b h1), h4⟩
  | cells cs t => obtain ⟨b, h1, h2, h3⟩ := h; exact ⟨b, h1, (hb b h1).trans h2, h3⟩
  | iter s pos => obtain ⟨b, h1, h2, h3⟩ := h; exact ⟨b, h1, (hb b h1).trans h2, h3⟩
  | ints k xs =>
    rcases h with h | ⟨b, cs, t, fr, h1, h2, h3⟩
    · exact .inl h
    · exact .inr ⟨b, cs, t, fr, h1, (hb b h1).trans h2, h3⟩
  | loop st pn ts ps asg bd => obtain ⟨b, r, h1, h2, h3⟩ := h; exact ⟨b, r, h1, (hb b h1).trans h2, h3⟩
  | defr => obtain ⟨b, h1, h2, h3⟩ := h; exact ⟨b, h1, (hb b h1).trans h2, h3⟩
  | dead => obtain ⟨b, o, h1, h2, h3⟩ := h; exact ⟨b, o, h1, (hb b h1).trans h2, h3⟩
  | ro xs =>
    rcases h with h | ⟨b, cs, t, fr, h1, h2, h3⟩
    · exact .inl h
    · exact .inr ⟨b, cs, t, fr, h1, (hb b h1).trans h2, h3⟩
  | map es => obtain ⟨b, mes, ck, h1, h2, h3⟩ := h; exact ⟨b, mes, ck, h1, (hb b h1).trans h2, h3⟩
  | fam f n sz o =>
    rcases h with h | ⟨b, cs, t, fr, h1, h2, h3⟩
    · exact .inl h
    · exact .inr ⟨b, cs, t, fr, h1, (hb b h1).trans h2, h3⟩

/-- A row under a new number, in a block that is new or was the old row's; what was known of the old row is forgotten. -/
theorem Sim.row {P : Program} {B : Nat} {M : Nat → Prop} {ρ : Num} {H H' : Heap} {w w' : World} (h : Sim P B M ρ H w) {n g cap : Nat} {e : TypeId} {sz : Nat} {r : Row} {cur : Array Value}
    (hH : ∀ i o, i ≠ n → H'.get i = some o → H.get i = some o ∧ ρ i ≠ some g) (hn : ρ n = some g) (hc : ρ (n + 1) = some cap) (hg : RowAt w' g cur e) (hB : B ≤ g ∨ M g) (hcm : cap ≤ maxLen) (hcs : cur.size = cap * sz)
    (hln : r.list.length ≤ cap * sz) (htake : cur.toList.take r.list.length = rvL ρ r.list) (hk : ∀ k, k < w.heap.size → k ≠ g → w'.heap[k]? = w.heap[k]?) : Sim P B M ρ ((n, .row e sz r (n + 1)) :: H') w' := by
  refine ⟨h.glob, fun i o hi => ?_, fun i j oi oj hi hr hj hij hne => ?_⟩
  · rw [Heap.get_cons] at hi
    split at hi
    · rename_i e; subst e; cases hi
      rw [hn]
      exact .inr ⟨g, cap, cur, rfl, hc, hg, hB, hcm, hcs, hln, htake⟩
    · rename_i hni
      obtain ⟨h1, h2⟩ := hH i o (fun e => hni e.symm) hi
      have ho := h.obj i o h1
      refine ho.same fun b hb => hk b ?_ (fun e => h2 (by rw [hb, e]))
      rw [hb] at ho
      exact ho.lt
  · rw [Heap.get_cons] at hi hj
    split at hi <;> split at hj
    · rename_i e1 e2; exact absurd (e1.symm.trans e2) hij
    · rename_i e1 e2; subst e1
      intro e
      exact (hH j oj (fun e => e2 e.symm) hj).2 (by rw [← e, hn])
    · rename_i e1 e2; subst e2
      intro e
      exact (hH i oi (fun e => e1 e.symm) hi).2 (by rw [e, hn])
    · rename_i e1 e2
      exact h.inj i j oi oj (hH i oi (fun e => e1 e.symm) hi).1 hr (hH j oj (fun e => e2 e.symm) hj).1 hij hne

theorem rvL_byteVs (ρ : Num) (l : List UInt8) : rvL ρ (byteVs l) = byteVs l := rvL_pure ρ _ (by rw [pureL_eq, byteVs_eq]; simp [pureV])

theorem newsOf_sound {P : Program} {B : Nat} {M : Nat → Prop} {ρ : Num} {H : Heap} {w : World} (hS : Sim P B M ρ H w) {sz : Nat} {x : Value} {m : Nat} {news : List Value} (h : newsOf H sz x = some (m, news)) {tx : TypeId} {d : TypeDesc} (ht : P.underlying tx = some d) (hd : srcT d = true) :
    Src P sz tx (rv ρ x) m (rvL ρ news) w ∧ 0 < m := by
  have hk : (∃ e', P.underlying tx = some (.slice e')) ∨ P.underlying tx = some .string := by
    unfold srcT at hd
    split at hd
    · exact .inl ⟨_, ht⟩
    · exact .inr ht
    · cases hd
  unfold newsOf at h
  split at h
  · rename_i p o sp m' c
    split at h
    case h_2 => cases h
    rename_i cs hcs
    split at h
    case h_2 => cases h
    rename_i hc
    cases h
    simp only [Bool.and_eq_true, Nat.blt_eq, List.all_eq_true] at hc
    obtain ⟨h2, h3⟩ := hc
    obtain ⟨b, hb, hlen, hcell⟩ := cellsAt_sound hS hcs
    have hrv : ∃ c', rv ρ (.slice (some ⟨p, o, sp⟩) m c) = .slice (some ⟨b, o, none⟩) m c' := by
      cases sp with
      | none => exact ⟨c, by simp [rv, rSl, rAddr, hb]⟩
      | some k => exact ⟨_, by simp [rv, rSl, hb]; rfl⟩
    obtain ⟨c', hrv⟩ := hrv
    have hone : ∀ u ∈ rvL ρ news, u.oneCell' = true := fun u hu => by
      rw [rvL_eq] at hu
      obtain ⟨u0, hu0, rfl⟩ := List.mem_map.1 hu
      exact one1_rv ρ u0 (h2 u0 hu0)
    have hl : (rvL ρ news).length = m * sz := by rw [rvL_eq, List.length_map]; exact hlen
    rw [hrv]
    have hnews : ∀ j u, (rvL ρ news)[j]? = some u → w.cell? ((⟨b, o, none⟩ : Addr).add j) = some u := fun j u hj => by rw [addr_add]; exact hcell j u hj
    exact ⟨⟨hk, fun _ => rfl, run_firstCells_some w sz m _ m c' _ hl hnews, run_firstCells_some w.drew sz m _ m c' _ hl (by simpa using hnews), hl, hone⟩, h3⟩
  · rename_i s
    split at h
    case h_2 => cases h
    rename_i hc
    simp only [Bool.and_eq_true, Nat.beq_eq, Nat.blt_eq] at hc
    obtain ⟨h1, h2⟩ := hc
    subst h1
    cases h
    rw [rvL_byteVs]
    have hb : byteVs s.data.toList = byteCells s := byteVs_eq _
    have hsz : s.data.toList.length = s.size := by rw [Array.length_toList]; rfl
    rw [hb, hsz]
    have he : rv ρ (.string s) = .string s := by simp [rv]
    rw [he]
    refine ⟨⟨hk, fun _ => rfl, firstCells_string s w, firstCells_string s w.drew, by rw [byteCells_length, Nat.mul_one], fun u hu => ?_⟩, by rw [← hsz]; exact h2⟩
    obtain ⟨_, _, rfl⟩ := List.mem_map.1 hu
    rfl
  · cases h

/-- There is room: the row's cells behind its length. -/
theorem run_append_room_row {P : Program} (w : World) (t tx ty e e2 : TypeId) (i : TypeInfo) (ht : P.underlying t = some (.slice e)) (hi : P.info? e = some i) (g off sLen sCap : Nat) (cur : Array Value) (hg : RowAt w g cur e2)
    (x : Value) (m : Nat) (news : List Value) (hs : Src P i.size tx x m news w) (hroom : sLen + m ≤ sCap) (hfit : off + sLen * i.size + news.length ≤ cur.size) :
    (Builtin.append_ #[t, tx] ty #[.slice (some ⟨g, off, none⟩) sLen sCap, x]).run P w =
      .ok (.slice (some ⟨g, off, none⟩) (sLen + m) sCap) (w.setRow g (cur.toList.take (off + sLen * i.size) ++ news ++ cur.toList.drop (off + sLen * i.size + news.length)).toArray) := by
  have hst := run_storeCells_free P g (off + sLen * i.size) e2 news 0 cur w hg (by simpa using hfit) hs.one
  simp only [Nat.add_zero] at hst
  rcases hs.kind with ⟨e', hk⟩ | hk <;> simp [Builtin.append_, run_underlying ht, run_underlying hk, sizeOf, typeInfo, hi, hs.len, hroom, hs.cells, Addr.add_lit, hst]

/-- Nothing is appended. -/
theorem run_append_none {P : Program} (w : World) (t tx ty e : TypeId) (i : TypeInfo) (ht : P.underlying t = some (.slice e)) (hi : P.info? e = some i) (hk : (∃ e', P.underlying tx = some (.slice e')) ∨ P.underlying tx = some .string) (base : Option Addr) (sLen sCap : Nat)
    (x : Value) (hl : ∀ w' : World, (Builtin.lenOf x).run P w' = .ok 0 w') (hc : (Builtin.firstCells i.size 0 x).run P w = .ok #[] w) (hroom : sLen ≤ sCap) :
    (Builtin.append_ #[t, tx] ty #[.slice base sLen sCap, x]).run P w = .ok (.slice base sLen sCap) w := by
  rcases hk with ⟨e', hk⟩ | hk <;> cases base <;> simp [Builtin.append_, run_underlying ht, run_underlying hk, sizeOf, typeInfo, hi, hl, hroom, hc, storeCells]

theorem noNews_sound {P : Program} {ρ : Num} {w : World} {sz : Nat} {x : Value} (h : noNews x = true) : (∀ w' : World, (Builtin.lenOf (rv ρ x)).run P w' = .ok 0 w') ∧ (Builtin.firstCells sz 0 (rv ρ x)).run P w = .ok #[] w := by
  unfold noNews at h
  split at h
  · simp only [rv]
    exact ⟨fun _ => rfl, run_firstCells_none w sz 0 0 _⟩
  · rename_i p o c
    simp only [rv, rSl, rAddr]
    cases ρ p with
    | none => exact ⟨fun _ => rfl, run_firstCells_none w sz 0 0 _⟩
    | some b => exact ⟨fun _ => rfl, run_firstCells_some w sz 0 ⟨b, o, none⟩ 0 c [] (by simp) (fun j u hj => by simp at hj)⟩
  · rename_i s
    have h := Nat.eq_of_beq_eq_true h
    have hsz : s.size = 0 := by rw [← h, Array.length_toList]; rfl
    simp only [rv]
    refine ⟨fun _ => by simp [Builtin.lenOf, hsz], ?_⟩
    simp [Builtin.firstCells]
  · cases h

theorem rvL_append (ρ : Num) (a b : List Value) : rvL ρ (a ++ b) = rvL ρ a ++ rvL ρ b := by simp [rvL_eq]

/-- A new row behind the heap. -/
theorem grown_row {w : World} {e : TypeId} {z : Value} {sz need old : Nat} (hz : z.cells.size = sz) {olds news : List Value} (hl : (olds ++ news).length = need * sz) (hm : need ≤ maxLen) :
    ∃ cur : Array Value, cur = olds.toArray ++ news.toArray ++ Builtin.zeroCells z.cells (grownCap w need old e - need) ∧ cur.size = grownCap w need old e * sz ∧ grownCap w need old e ≤ maxLen ∧ need ≤ grownCap w need old e ∧ cur.toList.take (olds ++ news).length = olds ++ news := by
  have hge := grownCap_ge w need old e
  refine ⟨_, rfl, ?_, grownCap_le_maxLen w need old e hm, hge, ?_⟩
  · have : olds.length + news.length = need * sz := by rw [← List.length_append]; exact hl
    simp only [Array.size_append, List.size_toArray, size_zeroCells, hz, this, ← Nat.add_mul]
    congr 1
    omega
  · simp only [Array.toList_append]
    exact List.take_left

theorem evAppendF_sound {P : Program} {auto : Bool} {ts : List TypeId} {H H' : Heap} {n : Nat} {args : List Value} {v : Value} {l : List Prop} (h : evAppend P auto ts H n args = some (v, H', l)) (hl : allP l)
    {B : Nat} {M : Nat → Prop} {F : Num → Prop} {ρ : Num} (hF : F ρ) {w : World} (hB : B ≤ w.heap.size) (hS : ∀ ρ', F ρ' → Sim P B M ρ' H w) (hA : ∀ ρ', F ρ' → rvL ρ' args = rvL ρ args) (ty : TypeId) :
    ∃ v' w' bn bk, (Builtin.append_ ts.toArray ty (rvL ρ args).toArray).run P w = .ok v' w' ∧ Keeps B M w w' ∧ ∀ ρ', F ρ' → ρ' n = bn → ρ' (n + 1) = bk → v' = rv ρ' v ∧ Sim P B M ρ' H' w' := by
  unfold evAppend at h
  simp only [undF_eq, infF_eq] at h
  split at h
  case h_2 => cases h
  rename_i t t2 s x
  split at h
  case h_2 => cases h
  rename_i e d hu hu2
  split at h
  case h_2 => cases h
  rename_i i hd hi
  split at h
  · cases h
  rename_i z hz
  have hs2 : ∀ ρ', F ρ' → rv ρ' s = rv ρ s ∧ rv ρ' x = rv ρ x := fun ρ' ha => by
    have := hA ρ' ha
    simp only [rvL, List.cons.injEq, and_true] at this
    exact this
  have hkind : (∃ e', P.underlying t2 = some (.slice e')) ∨ P.underlying t2 = some .string := by
    unfold srcT at hd
    split at hd
    · exact .inl ⟨_, hu2⟩
    · exact .inr hu2
    · cases hd
  split at h
  case h_3 => cases h
  case h_2 =>
    split at h
    case h_2 => cases h
    rename_i hnn
    obtain ⟨q1, q2⟩ := noNews_sound (P := P) (ρ := ρ) (w := w) (sz := i.size) hnn
    have fin : ∀ base sLen sCap, rv ρ s = .slice base sLen sCap → sLen ≤ sCap → ∃ v' w' bn bk, (Builtin.append_ #[t, t2] ty (rvL ρ [s, x]).toArray).run P w = .ok v' w' ∧ Keeps B M w w' ∧ ∀ ρ', F ρ' → ρ' n = bn → ρ' (n + 1) = bk → v' = rv ρ' s ∧ Sim P B M ρ' H w' := by
      intro base sLen sCap hs hle
      refine ⟨rv ρ s, w, ρ n, ρ (n + 1), ?_, Keeps.refl _ _ _, fun ρ' ha _ _ => ?_⟩
      · have := run_append_none (P := P) w t t2 ty e i hu hi hkind base sLen sCap (rv ρ x) q1 q2 hle
        simp only [rvL, hs]
        exact this
      · exact ⟨(hs2 ρ' ha).1.symm, hS ρ' ha⟩
    split at h
    · cases h
      exact fin none 0 0 (by simp [rv]) (Nat.le_refl _)
    · rename_i j off n0 c
      split at h
      case h_2 => cases h
      rename_i hle
      cases h
      exact fin _ n0 c (by simp [rv, rSl]; rfl) (Nat.le_of_ble_eq_true hle)
    · cases h
  rename_i m news hsz hnews
  simp only [Bool.and_eq_true, Nat.blt_eq, Nat.beq_eq] at hsz
  obtain ⟨hpos, hzs⟩ := hsz
  obtain ⟨hsrc, hm⟩ := newsOf_sound (hS ρ hF) hnews hu2 hd
  -- what is appended is the same in all numberings
  have hsame : ∀ ρ', F ρ' → rvL ρ' news = rvL ρ news := by
    intro ρ' ha
    obtain ⟨hsrc', _⟩ := newsOf_sound (hS ρ' ha) hnews hu2 hd
    have h1 := hsrc'.cells
    rw [(hs2 ρ' ha).2, hsrc.cells] at h1
    injection h1 with h1
    have := congrArg Array.toList h1
    simpa using this.symm
  have hnl := hsrc.newsLen
  -- the row is new
  have fresh : ∀ (N old : Nat) (rl : List Value) (r' : Row) (H2 : Heap), r'.list = rl ++ news → (∀ ρ', F ρ' → rvL ρ' rl = rvL ρ rl) → (rvL ρ rl ++ rvL ρ news).length = N * i.size → N ≤ maxLen → (∀ i o, H2.get i = some o → H.get i = some o) →
      (Builtin.append_ #[t, t2] ty (rvL ρ [s, x]).toArray).run P w = .ok (.slice (some ⟨w.heap.size, 0, none⟩) N (grownCap w N old e)) (w.drew.alloc (.cells ((rvL ρ rl ++ rvL ρ news).toArray ++ Builtin.zeroCells z.cells (grownCap w N old e - N)) e)) →
      ∃ v' w' bn bk, (Builtin.append_ #[t, t2] ty (rvL ρ [s, x]).toArray).run P w = .ok v' w' ∧ Keeps B M w w' ∧ ∀ ρ', F ρ' → ρ' n = bn → ρ' (n + 1) = bk → v' = rv ρ' (.slice (some ⟨n, 0, some (n + 1)⟩) N 0) ∧ Sim P B M ρ' ((n, .row e i.size r' (n + 1)) :: H2) w' := by
    intro N old rl r' H2 hr' hrl hlen hN hH2 hrun
    have hcat : (rvL ρ rl ++ rvL ρ news).toArray = (rvL ρ rl).toArray ++ (rvL ρ news).toArray := by simp
    rw [hcat] at hrun
    obtain ⟨cur, hcur, hcs, hcm, hge, htake⟩ := grown_row (w := w) (e := e) (z := z) (old := old) hzs hlen hN
    rw [← hcur] at hrun
    refine ⟨_, _, some w.heap.size, some (grownCap w N old e), hrun, ⟨rfl, rfl, rfl, by simp, fun k hk _ => heap_alloc_old w.drew _ (by simpa using Nat.lt_of_lt_of_le hk hB)⟩, fun ρ' ha0 g1 g2 => ?_⟩
    refine ⟨by simp [rv, rSl, g1, g2], Sim.row (hS ρ' ha0) (fun i o _ hi => ?_) g1 g2 (.of (heap_alloc_new w.drew _)) (.inl hB) hcm hcs ?_ ?_ (fun k hk _ => heap_alloc_old w.drew _ (by simpa using hk))⟩
    · refine ⟨hH2 i o hi, fun e => ?_⟩
      have := (hS ρ' ha0).obj i o (hH2 i o hi)
      rw [e] at this
      exact absurd this.lt (Nat.lt_irrefl _)
    · have e1 : r'.list.length = N * i.size := by rw [hr', ← hlen]; simp [rvL_eq]
      rw [e1]
      exact Nat.mul_le_mul_right _ hge
    · rw [hr', rvL_append, hrl ρ' ha0, hsame ρ' ha0]
      have e1 : (rl ++ news).length = (rvL ρ rl ++ rvL ρ news).length := by simp [rvL_eq]
      rw [e1]
      exact htake
  split at h
  · -- nothing stands there
    split at h
    case h_2 => cases h
    rename_i l' hneed
    cases h
    obtain ⟨q1, q2⟩ := need_sound hneed hl
    refine fresh m 0 [] _ H (newRow'_spec news) (fun _ _ => rfl) (by simpa [rvL] using hnl) (by unfold maxLen; omega) (fun _ _ h => h) ?_
    have := run_append_grow_src (P := P) w t t2 ty e i z hu hi hz none 0 0 [] (run_firstCells_none w.drew i.size 0 0 0) (rv ρ x) m (rvL ρ news) hsrc (by omega) (by omega) (growslice_fits (by omega) (by simpa using q1))
    simp only [rvL, rv, Nat.zero_add, List.nil_append] at this ⊢
    exact this
  · rename_i j k n0
    split at h
    case h_2 => cases h
    rename_i e' sz r k' hget
    split at h
    case h_2 => cases h
    rename_i r' l' hck hadd hneed
    cases h
    simp only [Bool.and_eq_true, Nat.beq_eq] at hck
    obtain ⟨⟨c1, c2⟩, c3⟩ := hck
    subst c1 c2 c3
    obtain ⟨q1, q2, q3⟩ := need_sound hneed hl
    rw [rowLen_eq] at q1
    have hr' := addRow_spec hadd
    have hdel : ∀ i o, (Heap.del j H).get i = some o → H.get i = some o := fun i o hh => (Heap.get_del j H i o hh).1
    have hss : ∀ ρ', F ρ' → rv ρ' (.slice (some ⟨j, 0, some k'⟩) n0 0) = rv ρ (.slice (some ⟨j, 0, some k'⟩) n0 0) := fun ρ' ha => (hs2 ρ' ha).1
    have hob := (hS ρ hF).obj j _ hget
    rcases hob with ⟨hj, hlist⟩ | ⟨b, cap, cur, hb, hcap, hcells, hbB, hcm, hcs, hln, htake⟩
    · -- nil: the number of elements is 0
      have hn0 : n0 = 0 := by
        rw [hlist] at q1
        simp only [List.length_nil] at q1
        rcases Nat.eq_zero_or_pos n0 with h0 | h0
        · exact h0
        · have := Nat.mul_le_mul h0 hpos
          omega
      subst hn0
      rw [Nat.zero_add] at q2 q3 ⊢
      refine fresh m 0 [] r' _ (by rw [hr', hlist]) (fun _ _ => rfl) (by simpa [rvL] using hnl) (by unfold maxLen; omega) hdel ?_
      have := run_append_grow_src (P := P) w t t2 ty e' i z hu hi hz none 0 0 [] (run_firstCells_none w.drew i.size 0 0 0) (rv ρ x) m (rvL ρ news) hsrc (by omega) (by omega) (growslice_fits (by omega) (by simpa using q2))
      simp only [rvL, rv, rSl, hj, Nat.zero_add, List.nil_append] at this ⊢
      exact this
    · have hnews' : ∀ ρ', F ρ' → ρ' j = some b := fun ρ' ha => by
        have := hss ρ' ha
        simp only [rv, rSl, hb] at this
        split at this
        · cases this
        · rename_i b' hb'
          simp only [Value.slice.injEq, Option.some.injEq, Addr.mk.injEq, and_true, true_and] at this
          rw [hb', this.1]
      have hrl : ∀ ρ', F ρ' → rvL ρ' r.list = rvL ρ r.list := fun ρ' ha => by
        rcases (hS ρ' ha).obj j _ hget with ⟨h1, _⟩ | ⟨b', cap', cur', h1, _, h3, _, _, _, _, h8⟩
        · rw [hnews' ρ' ha] at h1; cases h1
        · rw [hnews' ρ' ha] at h1
          cases h1
          obtain ⟨_, hc1, _⟩ := hcells
          obtain ⟨_, hc2, _⟩ := h3
          rw [hc1] at hc2
          cases hc2
          rw [← h8, htake]
      have hs : rv ρ (.slice (some ⟨j, 0, some k'⟩) n0 0) = .slice (some ⟨b, 0, none⟩) n0 cap := by simp [rv, rSl, hb, hcap]
      have hlen : (rvL ρ r.list).length = n0 * i.size := by rw [rvL_eq]; simp; exact q1.symm
      by_cases hroom : n0 + m ≤ cap
      · have hfit : n0 * i.size + (rvL ρ news).length ≤ cur.size := by rw [hnl, hcs, ← Nat.add_mul]; exact Nat.mul_le_mul_right _ hroom
        have hrun := run_append_room_row (P := P) w t t2 ty e' e' i hu hi b 0 n0 cap cur hcells (rv ρ x) m (rvL ρ news) hsrc hroom (by simpa using hfit)
        simp only [Nat.zero_add] at hrun
        refine ⟨_, w.setRow b (cur.toList.take (n0 * i.size) ++ rvL ρ news ++ cur.toList.drop (n0 * i.size + (rvL ρ news).length)).toArray, some b, some cap, by simp only [rvL, hs]; exact hrun, ⟨rfl, rfl, rfl, by simp, fun k hk hm => setRow_other w b k _ (fun e => by subst e; exact hbB.elim (fun h => by omega) hm)⟩, fun ρ' ha0 g1 g2 => ?_⟩
        have hl2 : r'.list.length = n0 * i.size + (rvL ρ news).length := by rw [hr', List.length_append, ← q1]; simp [rvL_eq]
        have hsize : (cur.toList.take (n0 * i.size) ++ rvL ρ news ++ cur.toList.drop (n0 * i.size + (rvL ρ news).length)).toArray.size = cur.size := by
          simp only [List.size_toArray, List.length_append, List.length_take, List.length_drop, Array.length_toList]
          rw [Nat.min_eq_left (by omega)]
          omega
        refine ⟨by simp [rv, rSl, g1, g2], Sim.row (hS ρ' ha0) (fun i' o _ hi' => ?_) g1 g2 (hcells.set _ hsize) hbB hcm (hsize.trans hcs) ?_ ?_ (fun k _ hk => setRow_other w b k _ hk)⟩
        · obtain ⟨d1, d2⟩ := Heap.get_del j H i' o hi'
          refine ⟨d1, fun e => ?_⟩
          exact (hS ρ' ha0).inj j i' _ _ hget rfl d1 (fun e => d2 e.symm) (by rw [hnews' ρ' ha0]; simp) (by rw [hnews' ρ' ha0, e])
        · rw [hl2, hnl, ← Nat.add_mul]; exact Nat.mul_le_mul_right _ hroom
        · rw [hl2, hr', rvL_append, hrl ρ' ha0, hsame ρ' ha0, ← htake]
          rw [← q1]
          have e1 : (cur.toList.take (n0 * i.size)).length = n0 * i.size := by rw [List.length_take, Array.length_toList]; omega
          rw [show n0 * i.size + (rvL ρ news).length = (cur.toList.take (n0 * i.size) ++ rvL ρ news).length by rw [List.length_append, e1]]
          exact List.take_left
      · have holds : ∀ q u, (rvL ρ r.list)[q]? = some u → w.cell? ((⟨b, 0, none⟩ : Addr).add q) = some u := fun q u hq => by
          rw [rvL_eq, List.getElem?_map] at hq
          cases hxq : r.list[q]? with
          | none => rw [hxq] at hq; cases hq
          | some u0 =>
            rw [hxq] at hq
            cases hq
            rw [addr_add, Nat.zero_add]
            exact row_cell hcells htake hxq
        have hrun := run_append_grow_src (P := P) w t t2 ty e' i z hu hi hz (some ⟨b, 0, none⟩) n0 cap (rvL ρ r.list) (run_firstCells_some w.drew i.size n0 _ n0 cap _ hlen (by simpa using holds)) (rv ρ x) m (rvL ρ news) hsrc (by omega) (by omega) (growslice_fits (by omega) q2)
        refine fresh (n0 + m) cap r.list r' _ hr' hrl (by rw [List.length_append, hlen, hnl, ← Nat.add_mul]) (by unfold maxLen; omega) hdel ?_
        simp only [rvL, hs]
        exact hrun
  · rename_i j off n0 c
    split at h
    case h_2 => cases h
    rename_i cs e2 hget
    obtain ⟨b, hb, hcells, hown⟩ := (hS ρ hF).obj j _ hget
    have hs : rv ρ (.slice (some ⟨j, off, none⟩) n0 c) = .slice (some ⟨b, off, none⟩) n0 c := by simp [rv, rSl, rAddr, hb]
    have hbj : ∀ ρ', F ρ' → ρ' j = some b := fun ρ' ha => by
      have := (hs2 ρ' ha).1
      rw [hs] at this
      simp only [rv, rSl, rAddr] at this
      cases hq : ρ' j with
      | none => rw [hq] at this; cases this
      | some b' =>
        rw [hq] at this
        simp only [Option.map_some, Value.slice.injEq, Option.some.injEq, Addr.mk.injEq, and_true] at this
        rw [this]
    have hcsame : ∀ ρ', F ρ' → rvL ρ' cs = rvL ρ cs := fun ρ' ha => by
      obtain ⟨b', h1, h2, _⟩ := (hS ρ' ha).obj j _ hget
      rw [hbj ρ' ha] at h1
      cases h1
      rw [hcells] at h2
      injection h2 with h2
      injection h2 with h2
      have := congrArg Array.toList h2
      simpa using this.symm
    have hclen : (rvL ρ cs).length = cs.length := by rw [rvL_eq, List.length_map]
    split at h
    · rename_i hroom
      have hroom := Nat.le_of_ble_eq_true hroom
      split at h
      case h_2 => cases h
      rename_i hfit
      have hfit := Nat.le_of_ble_eq_true hfit
      cases h
      have hnlen : (rvL ρ news).length = news.length := by rw [rvL_eq, List.length_map]
      have hrun := run_append_room_row (P := P) w t t2 ty e e2 i hu hi b off n0 c (rvL ρ cs).toArray (.of hcells) (rv ρ x) m (rvL ρ news) hsrc hroom (by simp only [List.size_toArray]; omega)
      refine ⟨_, w.setRow b ((rvL ρ cs).toArray.toList.take (off + n0 * i.size) ++ rvL ρ news ++ (rvL ρ cs).toArray.toList.drop (off + n0 * i.size + (rvL ρ news).length)).toArray, ρ n, ρ (n + 1), by simp only [rvL, hs]; exact hrun, ⟨rfl, rfl, rfl, by simp, fun k hk hm => setRow_other w b k _ (fun e => by subst e; exact hown.elim (fun h => by omega) hm)⟩, fun ρ' ha0 _ _ => ?_⟩
      refine ⟨by simp [rv, rSl, rAddr, hbj ρ' ha0], (hS ρ' ha0).turn hget rfl (hbj ρ' ha0) ⟨b, rfl, ?_, hown⟩ (fun k hk => setRow_other w b k _ hk)⟩
      rw [setRow_heap w b _ _ e2 _ hcells]
      congr 2
      have e1 := hcsame ρ' ha0
      have e2 := hsame ρ' ha0
      rw [rvL_eq, rvL_eq] at e1 e2
      simp only [rvL_eq, List.map_append, List.map_take, List.map_drop, List.length_map]
      rw [e1, e2]
    · rename_i hnr
      have hnr : c < n0 + m := by
        rcases Nat.lt_or_ge c (n0 + m) with h' | h'
        · exact h'
        · rw [Nat.ble_eq_true_of_le h'] at hnr; cases hnr
      split at h
      case h_2 => cases h
      rename_i l' hle hneed
      have hle := Nat.le_of_ble_eq_true hle
      cases h
      obtain ⟨q2, q3, _⟩ := need_sound hneed hl
      have hlen : (rvL ρ ((cs.drop off).take (n0 * i.size))).length = n0 * i.size := by rw [rvL_eq, List.length_map, List.length_take, List.length_drop]; omega
      have holds : ∀ q u, (rvL ρ ((cs.drop off).take (n0 * i.size)))[q]? = some u → w.cell? ((⟨b, off, none⟩ : Addr).add q) = some u := fun q u hq => by
        rw [addr_add, cell_of_row w b (off + q) _ _ _ hcells]
        rw [rvL_eq, List.getElem?_map, List.getElem?_take] at hq
        split at hq
        · rw [List.getElem?_drop] at hq
          simpa [rvL_eq] using hq
        · cases hq
      have hrun := run_append_grow_src (P := P) w t t2 ty e i z hu hi hz (some ⟨b, off, none⟩) n0 c (rvL ρ ((cs.drop off).take (n0 * i.size))) (run_firstCells_some w.drew i.size n0 _ n0 c _ hlen (by simpa using holds)) (rv ρ x) m (rvL ρ news) hsrc (by omega) (by omega) (growslice_fits (by omega) q2)
      refine fresh (n0 + m) c ((cs.drop off).take (n0 * i.size)) _ _ (newRow'_spec _) (fun ρ' ha => ?_) (by rw [List.length_append, hlen, hnl, ← Nat.add_mul]) (by unfold maxLen; omega) (fun _ _ h => h) ?_
      · have := hcsame ρ' ha
        rw [rvL_eq, rvL_eq] at this
        rw [rvL_eq, rvL_eq, List.map_take, List.map_drop, this, List.map_take, List.map_drop]
      · simp only [rvL, hs]
        exact hrun
  · cases h

theorem evAppend_sound {P : Program} {auto : Bool} {ts : List TypeId} {H H' : Heap} {n : Nat} {args : List Value} {v : Value} {l : List Prop} (h : evAppend P auto ts H n args = some (v, H', l)) (hl : allP l)
    {B : Nat} {M : Nat → Prop} {ρ : Num} {w : World} (hB : B ≤ w.heap.size) (hS : ∀ ρ', Agree n ρ ρ' → Sim P B M ρ' H w) (hA : ∀ ρ', Agree n ρ ρ' → rvL ρ' args = rvL ρ args) (ty : TypeId) :
    ∃ v' w' ρ1, Agree n ρ ρ1 ∧ (Builtin.append_ ts.toArray ty (rvL ρ args).toArray).run P w = .ok v' w' ∧ Keeps B M w w' ∧ ∀ ρ', Agree (n + 2) ρ1 ρ' → v' = rv ρ' v ∧ Sim P B M ρ' H' w' := by
  obtain ⟨v', w', bn, bk, h1, h2, h3⟩ := evAppendF_sound h hl (F := Agree n ρ) (Agree.refl _ _) hB hS hA ty
  refine ⟨v', w', fun i => if i = n then bn else if i = n + 1 then bk else ρ i, fun i hi => by simp only; rw [if_neg (by omega), if_neg (by omega)], h1, h2, fun ρ' ha => h3 ρ' (fun i hi => ?_) ?_ ?_⟩
  · rw [ha i (by omega)]; simp only; rw [if_neg (by omega), if_neg (by omega)]
  · rw [ha n (by omega)]; simp
  · rw [ha (n + 1) (by omega)]; simp

/-- The base of what is appended to. -/
def baseOf (args : List Value) : List Nat :=
  match args with
  | .slice (some ⟨j, _, _⟩) _ _ :: _ => [j]
  | _ => []

theorem cellsAt_mono {H H2 : Heap} (hs : ∀ i o, H.get i = some o → H2.get i = some o) {p o k : Nat} {cs : List Value} (h : cellsAt H p o k = some cs) : cellsAt H2 p o k = some cs := by
  unfold cellsAt at h ⊢
  cases hq : H.get p with
  | none => rw [hq] at h; cases h
  | some ob => rw [hq] at h; rw [hs p ob hq]; exact h

theorem newsOf_mono {H H2 : Heap} (hs : ∀ i o, H.get i = some o → H2.get i = some o) {sz : Nat} {x : Value} {q : Nat × List Value} (h : newsOf H sz x = some q) : newsOf H2 sz x = some q := by
  unfold newsOf at h ⊢
  split at h
  · rename_i p o sp m c
    split at h
    · rename_i cs hcs
      simp only [cellsAt_mono hs hcs]
      exact h
    · cases h
  · exact h
  · cases h

theorem newsOf_none {H : Heap} {sz : Nat} {x : Value} (h : noNews x = true) : newsOf H sz x = none := by
  unfold noNews at h
  split at h
  · rfl
  · simp [newsOf]
    split
    · rw [show Nat.blt 0 0 = false from rfl, Bool.and_false]
    · rfl
  · rename_i s
    have := Nat.eq_of_beq_eq_true h
    simp only [newsOf, this]
    rw [show Nat.blt 0 0 = false from rfl, Bool.and_false]
  · cases h

/-- What an append comes to over memory of which more is known; it turns just such numbers. -/
theorem evAppend_local {P : Program} {auto : Bool} {ts : List TypeId} {H H' H2 : Heap} {n : Nat} {args : List Value} {v : Value} {l : List Prop} (h : evAppend P auto ts H n args = some (v, H', l)) (hs : ∀ i o, H.get i = some o → H2.get i = some o) :
    ∃ H2', evAppend P auto ts H2 n args = some (v, H2', l) ∧ (∀ i o, (i = n ∨ i ∈ baseOf args) → H'.get i = some o → H2'.get i = some o) ∧ (∀ i, i ≠ n → i ∉ baseOf args → H2'.get i = H2.get i) := by
  have same : ∀ i o, (i = n ∨ i ∈ baseOf args) → H.get i = some o → H2.get i = some o := fun i o _ => hs i o
  unfold evAppend at h ⊢
  split at h
  case h_2 => cases h
  rename_i t t2 s x
  split at h
  case h_2 => cases h
  rename_i e d hu hu2
  try simp only [hu, hu2]
  split at h
  case h_2 => cases h
  rename_i i hd hi
  try simp only [hd, hi]
  split at h
  · cases h
  rename_i z hz
  split at h
  case h_3 => cases h
  case h_2 =>
    rename_i hsz hnews
    split at h
    case h_2 => cases h
    rename_i hnn
    try simp only [hsz, newsOf_none hnn]
    split at h
    · cases h; exact ⟨H2, rfl, same, fun _ _ _ => rfl⟩
    · split at h
      case h_2 => cases h
      rename_i hle
      cases h
      try simp only [hle]
      exact ⟨H2, rfl, same, fun _ _ _ => rfl⟩
    · cases h
  rename_i m news hsz hnews
  try simp only [hsz, newsOf_mono hs hnews]
  have front : ∀ (ob : AObj) (G G2 : Heap), (∀ i o, i ≠ n → G.get i = some o → i ∈ baseOf [s, x] → G2.get i = some o) → (∀ i, i ≠ n → i ∉ baseOf [s, x] → G2.get i = H2.get i) →
      (∀ i o, (i = n ∨ i ∈ baseOf [s, x]) → Heap.get ((n, ob) :: G) i = some o → Heap.get ((n, ob) :: G2) i = some o) ∧ (∀ i, i ≠ n → i ∉ baseOf [s, x] → Heap.get ((n, ob) :: G2) i = H2.get i) := by
    intro ob G G2 h1 h2
    refine ⟨fun i o hi hg => ?_, fun i h3 h4 => ?_⟩
    · rw [Heap.get_cons] at hg ⊢
      split at hg
      · rename_i e; rw [if_pos e]; exact hg
      · rename_i e
        rw [if_neg e]
        exact h1 i o (fun e' => e e'.symm) hg (hi.resolve_left (fun e' => e e'.symm))
    · rw [Heap.get_cons, if_neg (fun e => h3 e.symm)]
      exact h2 i h3 h4
  split at h
  · split at h
    case h_2 => cases h
    rename_i l' hneed
    cases h
    try simp only [hneed]
    exact ⟨_, rfl, front _ _ _ (fun i o _ hg _ => hs i o hg) (fun _ _ _ => rfl)⟩
  · rename_i j k n0
    split at h
    case h_2 => cases h
    rename_i e' sz r k' hget
    try simp only [hs _ _ hget]
    split at h
    case h_2 => cases h
    rename_i r' l' hck hadd hneed
    cases h
    try simp only [hck, hadd, hneed]
    refine ⟨_, rfl, front _ _ _ (fun i o _ hg hb => ?_) (fun i _ hb => ?_)⟩
    · simp only [baseOf, List.mem_cons, List.not_mem_nil, or_false] at hb
      exact absurd hb (Heap.get_del j H i o hg).2
    · simp only [baseOf, List.mem_cons, List.not_mem_nil, or_false] at hb
      exact Heap.get_del_of j H2 i hb
  · rename_i j off n0 c
    split at h
    case h_2 => cases h
    rename_i cs e2 hget
    try simp only [hs _ _ hget]
    split at h
    · rename_i hroom
      try simp only [hroom]
      split at h
      case h_2 => cases h
      rename_i hfit
      cases h
      try simp only [hfit]
      refine ⟨_, rfl, fun i o hi hg => ?_, fun i h1 h2 => ?_⟩
      · rw [Heap.get_set _ _ _ _ (hs _ _ hget)]
        rw [Heap.get_set _ _ _ _ hget] at hg
        split at hg
        · rename_i e; rw [if_pos e]; exact hg
        · rename_i e; rw [if_neg e]; exact hs i o hg
      · rw [Heap.get_set _ _ _ _ (hs _ _ hget), if_neg (fun e => h2 (by rw [← e]; simp [baseOf]))]
    · rename_i hnr
      try simp only [hnr]
      split at h
      case h_2 => cases h
      rename_i l' hle hneed
      cases h
      try simp only [hle, hneed]
      exact ⟨_, rfl, front _ _ _ (fun i o _ hg _ => hs i o hg) (fun _ _ _ => rfl)⟩
  · cases h

end
end Go.Proofs.YtaopinmjgjpiiaaGreatDoor.Ev
