/-
  The evaluator, part Eb: append: rows that grow.
-/
import Derived.Test.YthclpocignpfhaaDoorEvE
import Derived.Laws.AppendOwn
namespace Go.Proofs.YthclpocignpfhaaDoor.Ev
open Go Go.RowKit Go.Shelf

def Heap.del (j : Nat) : Heap → Heap
  | [] => []
  | (i, o) :: r => match Nat.beq i j with
    | true => Heap.del j r
    | false => (i, o) :: Heap.del j r

theorem Heap.get_del (j : Nat) : ∀ (H : Heap) (i : Nat) (o : AObj), (Heap.del j H).get i = some o → H.get i = some o ∧ i ≠ j
  | [], i, o, h => by simp [Heap.del, Heap.get] at h
  | (k, q) :: r, i, o, h => by
    unfold Heap.del at h
    split at h
    · rename_i hk
      have hk := Nat.eq_of_beq_eq_true hk
      subst hk
      obtain ⟨h1, h2⟩ := Heap.get_del k r i o h
      rw [Heap.get_cons, if_neg (fun e => h2 e.symm)]
      exact ⟨h1, h2⟩
    · rename_i hk
      rw [Heap.get_cons] at h ⊢
      split at h
      · rename_i e; subst e
        refine ⟨by rw [if_pos rfl]; exact h, fun e => ?_⟩
        rw [e, Nat.beq_refl] at hk
        cases hk
      · rename_i e
        obtain ⟨h1, h2⟩ := Heap.get_del j r i o h
        exact ⟨by rw [if_neg e]; exact h1, h2⟩

def toInts (k : IntKind) : List Value → Option (List Int)
  | [] => some []
  | v :: r => match v with
    | .int k' n => if k' = k then (match toInts k r with
      | some l => some (n :: l)
      | none => none) else none
    | _ => none

theorem toInts_spec {k : IntKind} : ∀ {vs : List Value} {l : List Int}, toInts k vs = some l → vs = l.map (Value.int k)
  | [], l, h => by simp only [toInts] at h; cases h; rfl
  | v :: r, l, h => by
    simp only [toInts] at h
    split at h
    · split at h
      · rename_i hk
        subst hk
        split at h
        · rename_i l' hl
          cases h
          rw [toInts_spec hl]
          rfl
        · cases h
      · cases h
    · cases h

def addRow (r : Row) (news : List Value) : Option Row :=
  match r with
  | .vals xs => some (.vals (xs ++ news))
  | .ints k ns => match toInts k news with
    | some l => some (.ints k (ns ++ l))
    | none => none

theorem addRow_spec {r r' : Row} {news : List Value} (h : addRow r news = some r') : r'.list = r.list ++ news := by
  unfold addRow at h
  split at h
  · cases h; rfl
  · split at h
    · rename_i l hl
      cases h
      rw [toInts_spec hl]
      simp [Row.list]
    · cases h

def newRow' (news : List Value) : Row :=
  match news with
  | .int k _ :: _ => match toInts k news with
    | some l => .ints k l
    | none => .vals news
  | _ => .vals news

theorem newRow'_spec (news : List Value) : (newRow' news).list = news := by
  unfold newRow'
  split
  · split
    · rename_i l hl; rw [Row.list]; exact (toInts_spec hl).symm
    · rfl
  · rfl

/-- What is appended: how many elements, their cells. -/
def newsOf (H : Heap) (sz : Nat) (x : Value) : Option (Nat × List Value) :=
  match x with
  | .slice (some ⟨p, o, none⟩) m _ => match H.get p with
    | some (.cells cs _) => match Nat.ble (o + m * sz) cs.length && ((cs.drop o).take (m * sz)).all one1 && Nat.blt 0 m with
      | true => some (m, (cs.drop o).take (m * sz))
      | false => none
    | _ => none
  | _ => none

def rowLen : Row → Nat
  | .vals xs => xs.length
  | .ints _ ns => ns.length

theorem rowLen_eq (r : Row) : rowLen r = r.list.length := by cases r <;> simp [rowLen, Row.list]

def evAppend (P : Program) (auto : Bool) (ts : List TypeId) (H : Heap) (n : Nat) (args : List Value) : Option (Value × Heap × List Prop) :=
  match ts, args with
  | [t, t2], [s, x] => match Nat.beq t t2, P.underlying t with
    | true, some (.slice e) => match P.info? e with
      | none => none
      | some i => match i.zero with
        | none => none
        | some z => match Nat.blt 0 i.size && Nat.beq z.cells.size i.size, newsOf H i.size x with
          | true, some (m, news) => match s with
            | .slice none 0 0 => match need auto (m * i.bytes ≤ 140737488355328 ∧ m ≤ 9223372036854775807) with
              | some l => some (.slice (some ⟨n, 0, some (n + 1)⟩) m 0, (n, .row e i.size (newRow' news) (n + 1)) :: H, l)
              | none => none
            | .slice (some ⟨j, 0, some k⟩) n0 0 => match H.get j with
              | some (.row e' sz r k') => match Nat.beq e' e && Nat.beq sz i.size && Nat.beq k' k, addRow r news, need auto (n0 * i.size = rowLen r ∧ (n0 + m) * i.bytes ≤ 140737488355328 ∧ n0 + m ≤ 9223372036854775807) with
                | true, some r', some l => some (.slice (some ⟨n, 0, some (n + 1)⟩) (n0 + m) 0, (n, .row e i.size r' (n + 1)) :: Heap.del j H, l)
                | _, _, _ => none
              | _ => none
            | _ => none
          | _, _ => none
    | _, _ => none
  | _, _ => none

def isApp : Builtin → Bool
  | .append => true
  | _ => false

theorem isApp_spec {b : Builtin} (h : isApp b = true) : b = .append := by
  cases b <;> first | rfl | (cases h; done)

theorem ORep.same {B : Nat} {M : Nat → Prop} {ρ : Num} {w w' : World} {ob : Option Nat} {o : AObj} (h : ORep B M ρ w ob o) (hb : ∀ b, ob = some b → w'.heap[b]? = w.heap[b]?) : ORep B M ρ w' ob o := by
  cases o with
  | row e sz r k =>
    rcases h with h | ⟨b, cap, cur, h1, h2, h3, h4⟩
    · exact .inl h
    · exact .inr ⟨b, cap, cur, h1, h2, (hb b h1).trans h3, h4⟩
  | cells cs t => obtain ⟨b, h1, h2, h3⟩ := h; exact ⟨b, h1, (hb b h1).trans h2, h3⟩
  | iter s pos => obtain ⟨b, h1, h2, h3⟩ := h; exact ⟨b, h1, (hb b h1).trans h2, h3⟩
  | ints k xs =>
    rcases h with h | ⟨b, cs, t, fr, h1, h2, h3⟩
    · exact .inl h
    · exact .inr ⟨b, cs, t, fr, h1, (hb b h1).trans h2, h3⟩
  | loop st pn ts ps asg bd => obtain ⟨b, r, h1, h2, h3⟩ := h; exact ⟨b, r, h1, (hb b h1).trans h2, h3⟩
  | defr => obtain ⟨b, h1, h2, h3⟩ := h; exact ⟨b, h1, (hb b h1).trans h2, h3⟩
  | dead => obtain ⟨b, o, h1, h2, h3⟩ := h; exact ⟨b, o, h1, (hb b h1).trans h2, h3⟩

/-- A row under a new number, in a block that is new or was the old row's; what was known of the old row is forgotten. -/
theorem Sim.row {P : Program} {B : Nat} {M : Nat → Prop} {ρ : Num} {H H' : Heap} {w w' : World} (h : Sim P B M ρ H w) {n g cap : Nat} {e : TypeId} {sz : Nat} {r : Row} {cur : Array Value}
    (hH : ∀ i o, i ≠ n → H'.get i = some o → H.get i = some o ∧ ρ i ≠ some g) (hn : ρ n = some g) (hc : ρ (n + 1) = some cap) (hg : w'.heap[g]? = some (.cells cur e (0, 0))) (hB : B ≤ g) (hcm : cap ≤ maxLen) (hcs : cur.size = cap * sz)
    (hln : r.list.length ≤ cap * sz) (htake : cur.toList.take r.list.length = rvL ρ r.list) (hk : ∀ k, k < w.heap.size → k ≠ g → w'.heap[k]? = w.heap[k]?) : Sim P B M ρ ((n, .row e sz r (n + 1)) :: H') w' := by
  refine ⟨h.glob, fun i o hi => ?_, fun i j oi oj hi hr hj hij hne => ?_⟩
  · rw [Heap.get_cons] at hi
    split at hi
    · rename_i e; subst e; cases hi
      rw [hn]
      exact .inr ⟨g, cap, cur, rfl, hc, hg, hB, hcm, hcs, hln, htake⟩
    · rename_i hni
      obtain ⟨h1, h2⟩ := hH i o (fun e => hni e.symm) hi
      have ho := h.obj i o h1
      refine ho.same fun b hb => hk b ?_ (fun e => h2 (by rw [hb, e]))
      rw [hb] at ho
      exact ho.lt
  · rw [Heap.get_cons] at hi hj
    split at hi <;> split at hj
    · rename_i e1 e2; exact absurd (e1.symm.trans e2) hij
    · rename_i e1 e2; subst e1
      intro e
      exact (hH j oj (fun e => e2 e.symm) hj).2 (by rw [← e, hn])
    · rename_i e1 e2; subst e2
      intro e
      exact (hH i oi (fun e => e1 e.symm) hi).2 (by rw [e, hn])
    · rename_i e1 e2
      exact h.inj i j oi oj (hH i oi (fun e => e1 e.symm) hi).1 hr (hH j oj (fun e => e2 e.symm) hj).1 hij hne

theorem newsOf_sound {P : Program} {B : Nat} {M : Nat → Prop} {ρ : Num} {H : Heap} {w : World} (hS : Sim P B M ρ H w) {sz : Nat} {x : Value} {m : Nat} {news : List Value} (h : newsOf H sz x = some (m, news)) :
    ∃ a c, rv ρ x = .slice (some a) m c ∧ (rvL ρ news).length = m * sz ∧ (∀ j u, (rvL ρ news)[j]? = some u → w.cell? (a.add j) = some u) ∧ (∀ u ∈ rvL ρ news, u.oneCell' = true) ∧ 0 < m := by
  unfold newsOf at h
  split at h
  case h_2 => cases h
  rename_i p o m' c
  split at h
  case h_2 => cases h
  rename_i cs t hget
  split at h
  case h_2 => cases h
  rename_i hc
  cases h
  simp only [Bool.and_eq_true, Nat.ble_eq, Nat.blt_eq, List.all_eq_true] at hc
  obtain ⟨⟨h1, h2⟩, h3⟩ := hc
  obtain ⟨b, hb, hcells, _⟩ := hS.obj p _ hget
  refine ⟨⟨b, o, none⟩, c, by simp [rv, rSl, rAddr, hb], ?_, fun j u hj => ?_, fun u hu => ?_, h3⟩
  · rw [rvL_eq]; simp; omega
  · rw [addr_add, cell_of_row w b (o + j) _ _ _ hcells]
    rw [rvL_eq, List.getElem?_map, List.getElem?_take] at hj
    split at hj
    · rw [List.getElem?_drop] at hj
      simpa [rvL_eq] using hj
    · cases hj
  · rw [rvL_eq] at hu
    obtain ⟨u0, hu0, rfl⟩ := List.mem_map.1 hu
    exact one1_rv ρ u0 (h2 u0 hu0)

theorem rvL_append (ρ : Num) (a b : List Value) : rvL ρ (a ++ b) = rvL ρ a ++ rvL ρ b := by simp [rvL_eq]

/-- A new row behind the heap. -/
theorem grown_row {w : World} {e : TypeId} {z : Value} {sz need old : Nat} (hz : z.cells.size = sz) {olds news : List Value} (hl : (olds ++ news).length = need * sz) (hm : need ≤ maxLen) :
    ∃ cur : Array Value, cur = olds.toArray ++ news.toArray ++ Builtin.zeroCells z.cells (grownCap w need old e - need) ∧ cur.size = grownCap w need old e * sz ∧ grownCap w need old e ≤ maxLen ∧ need ≤ grownCap w need old e ∧ cur.toList.take (olds ++ news).length = olds ++ news := by
  have hge := grownCap_ge w need old e
  refine ⟨_, rfl, ?_, grownCap_le_maxLen w need old e hm, hge, ?_⟩
  · have : olds.length + news.length = need * sz := by rw [← List.length_append]; exact hl
    simp only [Array.size_append, List.size_toArray, size_zeroCells, hz, this, ← Nat.add_mul]
    congr 1
    omega
  · simp only [Array.toList_append]
    exact List.take_left

theorem evAppend_sound {P : Program} {auto : Bool} {ts : List TypeId} {H H' : Heap} {n : Nat} {args : List Value} {v : Value} {l : List Prop} (h : evAppend P auto ts H n args = some (v, H', l)) (hl : allP l)
    {B : Nat} {M : Nat → Prop} {ρ : Num} {w : World} (hB : B ≤ w.heap.size) (hS : ∀ ρ', Agree n ρ ρ' → Sim P B M ρ' H w) (hA : ∀ ρ', Agree n ρ ρ' → rvL ρ' args = rvL ρ args) (ty : TypeId) :
    ∃ v' w' ρ1, Agree n ρ ρ1 ∧ (Builtin.append_ ts.toArray ty (rvL ρ args).toArray).run P w = .ok v' w' ∧ Keeps B M w w' ∧ ∀ ρ', Agree (n + 2) ρ1 ρ' → v' = rv ρ' v ∧ Sim P B M ρ' H' w' := by
  unfold evAppend at h
  split at h
  case h_2 => cases h
  rename_i t t2 s x
  split at h
  case h_2 => cases h
  rename_i e ht2 hu
  have ht2 := Nat.eq_of_beq_eq_true ht2
  subst ht2
  split at h
  · cases h
  rename_i i hi
  split at h
  · cases h
  rename_i z hz
  split at h
  case h_2 => cases h
  rename_i m news hsz hnews
  simp only [Bool.and_eq_true, Nat.blt_eq, Nat.beq_eq] at hsz
  obtain ⟨hpos, hzs⟩ := hsz
  obtain ⟨a, c, hx, hnl, hcell, hone, hm⟩ := newsOf_sound (hS ρ (Agree.refl _ _)) hnews
  -- what is appended is the same in all numberings
  have hsame : ∀ ρ', Agree n ρ ρ' → rvL ρ' news = rvL ρ news := by
    intro ρ' ha
    obtain ⟨a', c', hx', hnl', hcell', _⟩ := newsOf_sound (hS ρ' ha) hnews
    have hxx : rv ρ' x = rv ρ x := by
      have := hA ρ' ha
      simp only [rvL, List.cons.injEq, and_true] at this
      exact this.2
    rw [hx, hx'] at hxx
    cases hxx
    apply List.ext_getElem?
    intro j
    rcases Nat.lt_or_ge j (m * i.size) with hj | hj
    · have e1 : (rvL ρ' news)[j]? = some ((rvL ρ' news)[j]'(by omega)) := List.getElem?_eq_getElem _
      have e2 : (rvL ρ news)[j]? = some ((rvL ρ news)[j]'(by omega)) := List.getElem?_eq_getElem _
      have g1 := hcell' j _ e1
      have g2 := hcell j _ e2
      rw [g2] at g1
      rw [e1, e2]
      exact g1.symm
    · rw [List.getElem?_eq_none (by omega), List.getElem?_eq_none (by omega)]
  -- the row is new
  have fresh : ∀ (N old : Nat) (rl : List Value) (r' : Row) (H2 : Heap), r'.list = rl ++ news → (∀ ρ', Agree n ρ ρ' → rvL ρ' rl = rvL ρ rl) → (rvL ρ rl ++ rvL ρ news).length = N * i.size → N ≤ maxLen → (∀ i o, H2.get i = some o → H.get i = some o) →
      (Builtin.append_ #[t, t] ty (rvL ρ [s, x]).toArray).run P w = .ok (.slice (some ⟨w.heap.size, 0, none⟩) N (grownCap w N old e)) (w.drew.alloc (.cells ((rvL ρ rl).toArray ++ (rvL ρ news).toArray ++ Builtin.zeroCells z.cells (grownCap w N old e - N)) e)) →
      ∃ v' w' ρ1, Agree n ρ ρ1 ∧ (Builtin.append_ #[t, t] ty (rvL ρ [s, x]).toArray).run P w = .ok v' w' ∧ Keeps B M w w' ∧ ∀ ρ', Agree (n + 2) ρ1 ρ' → v' = rv ρ' (.slice (some ⟨n, 0, some (n + 1)⟩) N 0) ∧ Sim P B M ρ' ((n, .row e i.size r' (n + 1)) :: H2) w' := by
    intro N old rl r' H2 hr' hrl hlen hN hH2 hrun
    obtain ⟨cur, hcur, hcs, hcm, hge, htake⟩ := grown_row (w := w) (e := e) (z := z) (old := old) hzs hlen hN
    rw [← hcur] at hrun
    refine ⟨_, _, fun i => if i = n then some w.heap.size else if i = n + 1 then some (grownCap w N old e) else ρ i, fun i hi => by simp only; rw [if_neg (by omega), if_neg (by omega)], hrun, ⟨rfl, rfl, rfl, by simp, fun k hk _ => heap_alloc_old w.drew _ (by simpa using Nat.lt_of_lt_of_le hk hB)⟩, fun ρ' ha => ?_⟩
    have g1 : ρ' n = some w.heap.size := by rw [ha n (by omega)]; simp
    have g2 : ρ' (n + 1) = some (grownCap w N old e) := by rw [ha (n + 1) (by omega)]; simp
    have ha0 : Agree n ρ ρ' := fun i hi => by rw [ha i (by omega)]; simp only; rw [if_neg (by omega), if_neg (by omega)]
    refine ⟨by simp [rv, rSl, g1, g2], Sim.row (hS ρ' ha0) (fun i o _ hi => ?_) g1 g2 (heap_alloc_new w.drew _) hB hcm hcs ?_ ?_ (fun k hk _ => heap_alloc_old w.drew _ (by simpa using hk))⟩
    · refine ⟨hH2 i o hi, fun e => ?_⟩
      have := (hS ρ' ha0).obj i o (hH2 i o hi)
      rw [e] at this
      exact absurd this.lt (Nat.lt_irrefl _)
    · have e1 : r'.list.length = N * i.size := by rw [hr', ← hlen]; simp [rvL_eq]
      rw [e1]
      exact Nat.mul_le_mul_right _ hge
    · rw [hr', rvL_append, hrl ρ' ha0, hsame ρ' ha0]
      have e1 : (rl ++ news).length = (rvL ρ rl ++ rvL ρ news).length := by simp [rvL_eq]
      rw [e1]
      exact htake
  split at h
  · -- nothing stands there
    split at h
    case h_2 => cases h
    rename_i l' hneed
    cases h
    obtain ⟨q1, q2⟩ := need_sound hneed hl
    refine fresh m 0 [] _ H (newRow'_spec news) (fun _ _ => rfl) (by simpa [rvL] using hnl) (by unfold maxLen; omega) (fun _ _ h => h) ?_
    have := run_append_nil (P := P) w t ty e i z hu hi hz a m c (rvL ρ news) hnl hcell hm (by omega) (by omega)
    simp only [rvL, rv, hx]
    simpa using this
  · rename_i j k n0
    split at h
    case h_2 => cases h
    rename_i e' sz r k' hget
    split at h
    case h_2 => cases h
    rename_i r' l' hck hadd hneed
    cases h
    simp only [Bool.and_eq_true, Nat.beq_eq] at hck
    obtain ⟨⟨c1, c2⟩, c3⟩ := hck
    subst c1 c2 c3
    obtain ⟨q1, q2, q3⟩ := need_sound hneed hl
    rw [rowLen_eq] at q1
    have hr' := addRow_spec hadd
    have hdel : ∀ i o, (Heap.del j H).get i = some o → H.get i = some o := fun i o hh => (Heap.get_del j H i o hh).1
    have hss : ∀ ρ', Agree n ρ ρ' → rv ρ' (.slice (some ⟨j, 0, some k'⟩) n0 0) = rv ρ (.slice (some ⟨j, 0, some k'⟩) n0 0) := fun ρ' ha => by
      have := hA ρ' ha
      simp only [rvL, List.cons.injEq, and_true] at this
      exact this.1
    have hob := (hS ρ (Agree.refl _ _)).obj j _ hget
    rcases hob with ⟨hj, hlist⟩ | ⟨b, cap, cur, hb, hcap, hcells, hbB, hcm, hcs, hln, htake⟩
    · -- nil: the number of elements is 0
      have hn0 : n0 = 0 := by
        rw [hlist] at q1
        simp only [List.length_nil] at q1
        rcases Nat.eq_zero_or_pos n0 with h0 | h0
        · exact h0
        · have := Nat.mul_le_mul h0 hpos
          omega
      subst hn0
      rw [Nat.zero_add] at q2 q3 ⊢
      refine fresh m 0 [] r' _ (by rw [hr', hlist]) (fun _ _ => rfl) (by simpa [rvL] using hnl) (by unfold maxLen; omega) hdel ?_
      have := run_append_nil (P := P) w t ty e' i z hu hi hz a m c (rvL ρ news) hnl hcell hm (by omega) (by omega)
      simp only [rvL, rv, rSl, hj, hx]
      simpa using this
    · have hnews' : ∀ ρ', Agree n ρ ρ' → ρ' j = some b := fun ρ' ha => by
        have := hss ρ' ha
        simp only [rv, rSl, hb] at this
        split at this
        · cases this
        · rename_i b' hb'
          simp only [Value.slice.injEq, Option.some.injEq, Addr.mk.injEq, and_true, true_and] at this
          rw [hb', this.1]
      have hrl : ∀ ρ', Agree n ρ ρ' → rvL ρ' r.list = rvL ρ r.list := fun ρ' ha => by
        rcases (hS ρ' ha).obj j _ hget with ⟨h1, _⟩ | ⟨b', cap', cur', h1, _, h3, _, _, _, _, h8⟩
        · rw [hnews' ρ' ha] at h1; cases h1
        · rw [hnews' ρ' ha] at h1
          cases h1
          rw [hcells] at h3
          cases h3
          rw [← h8, htake]
      have hs : rv ρ (.slice (some ⟨j, 0, some k'⟩) n0 0) = .slice (some ⟨b, 0, none⟩) n0 cap := by simp [rv, rSl, hb, hcap]
      have hlen : (rvL ρ r.list).length = n0 * i.size := by rw [rvL_eq]; simp; exact q1.symm
      by_cases hroom : n0 + m ≤ cap
      · have hfit : n0 * i.size + (rvL ρ news).length ≤ cur.size := by rw [hnl, hcs, ← Nat.add_mul]; exact Nat.mul_le_mul_right _ hroom
        have hrun := run_append_room (P := P) w t ty e' i hu hi b n0 cap cur hcells a m c (rvL ρ news) hnl hcell hone hroom hfit
        refine ⟨_, w.setRow b (cur.toList.take (n0 * i.size) ++ rvL ρ news ++ cur.toList.drop (n0 * i.size + (rvL ρ news).length)).toArray, fun i => if i = n then some b else if i = n + 1 then some cap else ρ i, fun i hi => by simp only; rw [if_neg (by omega), if_neg (by omega)], by simp only [rvL, hs, hx]; exact hrun, ⟨rfl, rfl, rfl, by simp, fun k hk _ => setRow_other w b k _ (fun e => by omega)⟩, fun ρ' ha => ?_⟩
        have g1 : ρ' n = some b := by rw [ha n (by omega)]; simp
        have g2 : ρ' (n + 1) = some cap := by rw [ha (n + 1) (by omega)]; simp
        have ha0 : Agree n ρ ρ' := fun i hi => by rw [ha i (by omega)]; simp only; rw [if_neg (by omega), if_neg (by omega)]
        have hl2 : r'.list.length = n0 * i.size + (rvL ρ news).length := by rw [hr', List.length_append, ← q1]; simp [rvL_eq]
        refine ⟨by simp [rv, rSl, g1, g2], Sim.row (hS ρ' ha0) (fun i' o _ hi' => ?_) g1 g2 (setRow_heap w b cur _ e' _ hcells) hbB hcm ?_ ?_ ?_ (fun k _ hk => setRow_other w b k _ hk)⟩
        · obtain ⟨d1, d2⟩ := Heap.get_del j H i' o hi'
          refine ⟨d1, fun e => ?_⟩
          exact (hS ρ' ha0).inj j i' _ _ hget rfl d1 (fun e => d2 e.symm) (by rw [hnews' ρ' ha0]; simp) (by rw [hnews' ρ' ha0, e])
        · simp only [List.size_toArray, List.length_append, List.length_take, List.length_drop, Array.length_toList]
          rw [Nat.min_eq_left (by omega)]
          omega
        · rw [hl2, hnl, ← Nat.add_mul]; exact Nat.mul_le_mul_right _ hroom
        · rw [hl2, hr', rvL_append, hrl ρ' ha0, hsame ρ' ha0, ← htake]
          rw [← q1]
          have e1 : (cur.toList.take (n0 * i.size)).length = n0 * i.size := by rw [List.length_take, Array.length_toList]; omega
          rw [show n0 * i.size + (rvL ρ news).length = (cur.toList.take (n0 * i.size) ++ rvL ρ news).length by rw [List.length_append, e1]]
          exact List.take_left
      · have holds : ∀ q u, (rvL ρ r.list)[q]? = some u → w.cell? ((⟨b, 0, none⟩ : Addr).add q) = some u := fun q u hq => by
          rw [rvL_eq, List.getElem?_map] at hq
          cases hxq : r.list[q]? with
          | none => rw [hxq] at hq; cases hq
          | some u0 =>
            rw [hxq] at hq
            cases hq
            rw [addr_add, Nat.zero_add]
            exact row_cell hcells htake hxq
        have hrun := run_append_grow (P := P) w t ty e' i z hu hi hz ⟨b, 0, none⟩ n0 cap (rvL ρ r.list) hlen holds a m c (rvL ρ news) hnl hcell (by omega) (by omega) (growslice_fits (by omega) q2)
        refine fresh (n0 + m) cap r.list r' _ hr' hrl (by rw [List.length_append, hlen, hnl, ← Nat.add_mul]) (by unfold maxLen; omega) hdel ?_
        simp only [rvL, hs, hx]
        exact hrun
  · cases h

end Go.Proofs.YthclpocignpfhaaDoor.Ev
