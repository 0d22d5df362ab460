/-
  The evaluator, part H: regions whose order is drawn. All but the last operations leave memory alone, and what one of them writes the others read only in a fixed order; the last ones stand in a chain.
-/
import Derived.Test.YtaopinmjgjpiiaaGreatDoorEvG
namespace Go.Proofs.YtaopinmjgjpiiaaGreatDoor.Ev
open Go Go.RowKit Go.Shelf
noncomputable section

def memN (x : Nat) : List Nat → Bool
  | [] => false
  | y :: r => Nat.beq x y || memN x r

theorem memN_iff {x : Nat} : ∀ {l : List Nat}, memN x l = true ↔ x ∈ l
  | [] => by simp [memN]
  | y :: r => by
    simp only [memN, Bool.or_eq_true, List.mem_cons, memN_iff (l := r), Nat.beq_eq]

def predsL : List Edge → List Nat
  | [] => []
  | e :: r => match Region.binds .any e with
    | true => e.on :: predsL r
    | false => predsL r

def predsOf (o : Oper) : List Nat := predsL o.after.toList

theorem predsOf_iff {o : Oper} {k : Nat} : k ∈ predsOf o ↔ ∃ e ∈ o.after, Region.binds .any e = true ∧ e.on = k := by
  unfold predsOf
  rw [show (∃ e ∈ o.after, Region.binds .any e = true ∧ e.on = k) ↔ ∃ e ∈ o.after.toList, Region.binds .any e = true ∧ e.on = k by simp]
  induction o.after.toList with
  | nil => simp [predsL]
  | cons e r ih =>
    simp only [predsL]
    split
    · rename_i hb
      simp only [List.mem_cons, ih]
      constructor
      · rintro (h | ⟨x, hx, h1, h2⟩)
        · exact ⟨e, .inl rfl, hb, h.symm⟩
        · exact ⟨x, .inr hx, h1, h2⟩
      · rintro ⟨x, rfl | hx, h1, h2⟩
        · exact .inl h2.symm
        · exact .inr ⟨x, hx, h1, h2⟩
    · rename_i hb
      rw [ih]
      simp only [List.mem_cons]
      constructor
      · rintro ⟨x, hx, h1, h2⟩; exact ⟨x, .inr hx, h1, h2⟩
      · rintro ⟨x, rfl | hx, h1, h2⟩
        · rw [hb] at h1; cases h1
        · exact ⟨x, hx, h1, h2⟩

def allLt (n : Nat) : List Nat → Bool
  | [] => true
  | x :: r => Nat.blt x n && allLt n r
theorem allLt_spec {n : Nat} : ∀ {l : List Nat}, allLt n l = true → ∀ x ∈ l, x < n
  | [], _, x, hx => by cases hx
  | y :: r, h, x, hx => by
    simp only [allLt, Bool.and_eq_true, Nat.blt_eq] at h
    rcases List.mem_cons.1 hx with rfl | hx
    · exact h.1
    · exact allLt_spec h.2 x hx

/-- Each edge leads forward. -/
def fwdFrom : Nat → List Oper → Bool
  | _, [] => true
  | i, o :: r => allLt i (predsOf o) && fwdFrom (i + 1) r

theorem fwdFrom_spec : ∀ {r : List Oper} {i : Nat}, fwdFrom i r = true → ∀ k o, r[k]? = some o → ∀ e ∈ predsOf o, e < i + k
  | [], i, _, k, o, ho => by simp at ho
  | x :: r, i, h, k, o, ho => by
    simp only [fwdFrom, Bool.and_eq_true] at h
    cases k with
    | zero => simp only [List.getElem?_cons_zero, Option.some.injEq] at ho; subst ho; exact allLt_spec h.1
    | succ k =>
      simp only [List.getElem?_cons_succ] at ho
      intro e he
      have := fwdFrom_spec h.2 k o ho e he
      omega

def memO (d : Nat) : List Oper → Bool
  | [] => false
  | o :: r => (match o.dst with
    | some e => Nat.beq d e
    | none => false) || memO d r

def noDup : List Oper → Bool
  | [] => true
  | o :: r => (match o.dst with
    | some d => !memO d r
    | none => true) && noDup r

theorem memO_false {d : Nat} : ∀ {r : List Oper}, memO d r = false → ∀ (k : Nat) (o : Oper), r[k]? = some o → o.dst ≠ some d
  | [], _, k, o, ho => by simp at ho
  | x :: r, h, k, o, ho => by
    simp only [memO, Bool.or_eq_false_iff] at h
    cases k with
    | zero =>
      simp only [List.getElem?_cons_zero, Option.some.injEq] at ho
      subst ho
      intro e
      rw [e] at h
      simp at h
    | succ k => simp only [List.getElem?_cons_succ] at ho; exact memO_false h.2 k o ho

theorem noDup_spec : ∀ {r : List Oper}, noDup r = true → ∀ (i k : Nat) (oi ok : Oper) (d : Nat), r[i]? = some oi → r[k]? = some ok → oi.dst = some d → ok.dst = some d → i = k
  | [], _, i, k, oi, ok, d, hi, _, _, _ => by simp at hi
  | x :: r, h, i, k, oi, ok, d, hi, hk, di, dk => by
    simp only [noDup, Bool.and_eq_true] at h
    cases i with
    | zero =>
      cases k with
      | zero => rfl
      | succ k =>
        simp only [List.getElem?_cons_zero, Option.some.injEq] at hi
        subst hi
        rw [di] at h
        simp only [Bool.not_eq_true'] at h
        simp only [List.getElem?_cons_succ] at hk
        exact absurd dk (memO_false h.1 k ok hk)
    | succ i =>
      cases k with
      | zero =>
        simp only [List.getElem?_cons_zero, Option.some.injEq] at hk
        subst hk
        rw [dk] at h
        simp only [Bool.not_eq_true'] at h
        simp only [List.getElem?_cons_succ] at hi
        exact absurd di (memO_false h.1 i oi hi)
      | succ k =>
        simp only [List.getElem?_cons_succ] at hi hk
        rw [noDup_spec h.2 i k oi ok d hi hk di dk]

/-- Slot t, which operation i looks at: whoever writes it stands ahead of i or behind it. -/
def slotOk (i : Nat) (pi : List Nat) (t : Nat) : Nat → List Oper → Bool
  | _, [] => true
  | k, o :: r => (match o.dst with
    | some d => !(Nat.beq d t) || Nat.beq k i || memN k pi || memN i (predsOf o)
    | none => true) && slotOk i pi t (k + 1) r

theorem slotOk_spec {i : Nat} {pi : List Nat} {t : Nat} : ∀ {r : List Oper} {k0 : Nat}, slotOk i pi t k0 r = true → ∀ k o, r[k]? = some o → o.dst = some t → k0 + k = i ∨ (k0 + k) ∈ pi ∨ i ∈ predsOf o
  | [], k0, _, k, o, ho, _ => by simp at ho
  | x :: r, k0, h, k, o, ho, hd => by
    simp only [slotOk, Bool.and_eq_true] at h
    cases k with
    | zero =>
      simp only [List.getElem?_cons_zero, Option.some.injEq] at ho
      subst ho
      rw [hd] at h
      simp only [Nat.beq_refl, Bool.not_true, Bool.false_or, Bool.or_eq_true, Nat.beq_eq, memN_iff] at h
      rcases h.1 with (h1 | h1) | h1
      · exact .inl h1
      · exact .inr (.inl h1)
      · exact .inr (.inr h1)
    | succ k =>
      simp only [List.getElem?_cons_succ] at ho
      have := slotOk_spec h.2 k o ho hd
      rw [show k0 + (k + 1) = k0 + 1 + k by omega]
      exact this

def slotsOk (hd : List Oper) (i : Nat) (pi : List Nat) : List Nat → Bool
  | [] => true
  | t :: r => slotOk i pi t 0 hd && slotsOk hd i pi r

theorem slotsOk_spec {hd : List Oper} {i : Nat} {pi : List Nat} : ∀ {l : List Nat}, slotsOk hd i pi l = true → ∀ t ∈ l, slotOk i pi t 0 hd = true
  | [], _, t, ht => by cases ht
  | x :: r, h, t, ht => by
    simp only [slotsOk, Bool.and_eq_true] at h
    rcases List.mem_cons.1 ht with rfl | ht
    · exact h.1
    · exact slotsOk_spec h.2 t ht

def looksOk (os hd : List Oper) : Nat → List Oper → Bool
  | _, [] => true
  | i, o :: r => slotsOk hd i (predsOf o) (looks os o) && looksOk os hd (i + 1) r

theorem looksOk_spec {os hd : List Oper} : ∀ {r : List Oper} {i0 : Nat}, looksOk os hd i0 r = true → ∀ i o, r[i]? = some o → ∀ t ∈ looks os o, ∀ k ok, hd[k]? = some ok → ok.dst = some t → k = i0 + i ∨ k ∈ predsOf o ∨ (i0 + i) ∈ predsOf ok
  | [], i0, _, i, o, ho => by simp at ho
  | x :: r, i0, h, i, o, ho => by
    simp only [looksOk, Bool.and_eq_true] at h
    cases i with
    | zero =>
      simp only [List.getElem?_cons_zero, Option.some.injEq] at ho
      subst ho
      intro t ht k ok hk hd
      have := slotOk_spec (slotsOk_spec h.1 t ht) k ok hk hd
      simpa using this
    | succ i =>
      simp only [List.getElem?_cons_succ] at ho
      intro t ht k ok hk hd
      have := looksOk_spec h.2 i o ho t ht k ok hk hd
      rw [show i0 + (i + 1) = i0 + 1 + i by omega]
      exact this

/-- Each of the first m operations has one behind it, up to number m, that waits for it. -/
def waitedBy (i : Nat) : List Oper → Bool
  | [] => false
  | o :: r => memN i (predsOf o) || waitedBy i r

theorem waitedBy_spec {i : Nat} : ∀ {r : List Oper}, waitedBy i r = true → ∃ (k : Nat) (o : Oper), r[k]? = some o ∧ i ∈ predsOf o
  | [], h => by simp [waitedBy] at h
  | x :: r, h => by
    simp only [waitedBy, Bool.or_eq_true, memN_iff] at h
    rcases h with h | h
    · exact ⟨0, x, by simp, h⟩
    · obtain ⟨k, o, h1, h2⟩ := waitedBy_spec h
      exact ⟨k + 1, o, by simpa using h1, h2⟩

def sinkFrom (hd : List Oper) : Nat → Bool
  | 0 => true
  | i + 1 => waitedBy i hd && sinkFrom hd i

theorem sinkFrom_spec {hd : List Oper} : ∀ {m : Nat}, sinkFrom hd m = true → ∀ i < m, waitedBy i hd = true
  | 0, _, i, hi => by omega
  | m + 1, h, i, hi => by
    simp only [sinkFrom, Bool.and_eq_true] at h
    by_cases e : i = m
    · subst e; exact h.1
    · exact sinkFrom_spec h.2 i (by omega)

def chainFrom : Nat → List Oper → Bool
  | _, [] => true
  | t, o :: r => memN (t - 1) (predsOf o) && chainFrom (t + 1) r

theorem chainFrom_spec : ∀ {r : List Oper} {t : Nat}, chainFrom t r = true → ∀ k o, r[k]? = some o → (t + k - 1) ∈ predsOf o
  | [], t, _, k, o, ho => by simp at ho
  | x :: r, t, h, k, o, ho => by
    simp only [chainFrom, Bool.and_eq_true, memN_iff] at h
    cases k with
    | zero => simp only [List.getElem?_cons_zero, Option.some.injEq] at ho; subst ho; exact h.1
    | succ k =>
      simp only [List.getElem?_cons_succ] at ho
      rw [show t + (k + 1) - 1 = t + 1 + k - 1 by omega]
      exact chainFrom_spec h.2 k o ho

def drawOk (os : List Oper) (m : Nat) : Bool :=
  Nat.ble m os.length && fwdFrom 0 os && noDup (os.take m) && looksOk os (os.take m) 0 (os.take m) &&
  (Nat.beq m os.length || (sinkFrom (os.take (m + 1)) m && chainFrom (m + 1) (os.drop (m + 1))))

structure Draws (os : List Oper) (m : Nat) : Prop where
  le : m ≤ os.length
  fwd : ∀ i o, os[i]? = some o → ∀ e ∈ predsOf o, e < i
  dup : ∀ i k oi ok d, i < m → k < m → os[i]? = some oi → os[k]? = some ok → oi.dst = some d → ok.dst = some d → i = k
  slot : ∀ i o, i < m → os[i]? = some o → ∀ t ∈ looks os o, ∀ k ok, k < m → os[k]? = some ok → ok.dst = some t → k = i ∨ k ∈ predsOf o ∨ i ∈ predsOf ok
  sink : m < os.length → ∀ i < m, ∃ j o, i < j ∧ j ≤ m ∧ os[j]? = some o ∧ i ∈ predsOf o
  chain : ∀ t o, m < t → os[t]? = some o → (t - 1) ∈ predsOf o

theorem take_get {os : List Oper} {m i : Nat} (h : i < m) : (os.take m)[i]? = os[i]? := by
  rw [List.getElem?_take, if_pos h]

theorem drawOk_spec {os : List Oper} {m : Nat} (h : drawOk os m = true) : Draws os m := by
  simp only [drawOk, Bool.and_eq_true, Bool.or_eq_true, Nat.ble_eq, Nat.beq_eq] at h
  obtain ⟨⟨⟨⟨h1, h2⟩, h3⟩, h4⟩, h5⟩ := h
  have fwd : ∀ i o, os[i]? = some o → ∀ e ∈ predsOf o, e < i := fun i o ho e he => by
    have := fwdFrom_spec h2 i o ho e he
    omega
  refine ⟨h1, fwd, fun i k oi ok d hi hk hoi hok di dk => ?_, fun i o hi ho t ht k ok hk hok hd => ?_, fun hlt i hi => ?_, fun t o ht ho => ?_⟩
  · exact noDup_spec h3 i k oi ok d ((take_get hi).trans hoi) ((take_get hk).trans hok) di dk
  · have := looksOk_spec h4 i o ((take_get hi).trans ho) t ht k ok ((take_get hk).trans hok) hd
    simpa using this
  · rcases h5 with h5 | h5
    · omega
    · obtain ⟨k, o, hk, hin⟩ := waitedBy_spec (sinkFrom_spec h5.1 i hi)
      have hkm : k < m + 1 := by
        rcases Nat.lt_or_ge k (m + 1) with h | h
        · exact h
        · rw [List.getElem?_take, if_neg (by omega)] at hk; cases hk
      rw [take_get hkm] at hk
      exact ⟨k, o, fwd k o hk i hin, by omega, hk, hin⟩
  · rcases h5 with h5 | h5
    · have : t < os.length := (List.getElem?_eq_some_iff.1 ho).1
      omega
    · have := chainFrom_spec h5.2 (t - (m + 1)) o (by rw [List.getElem?_drop]; rw [show m + 1 + (t - (m + 1)) = t by omega]; exact ho)
      rw [show m + 1 + (t - (m + 1)) - 1 = t - 1 by omega] at this
      exact this

/-! The first m operations, in whatever order. -/

theorem evOper_quiet {X : Cx} {os : List Oper} {o : Oper} {s s' : St} {kv kv' : KV} (h : evOper X true os o s kv = some (s', kv')) : s'.heap = s.heap ∧ s'.nid = s.nid ∧ s'.ds = s.ds := by
  rw [evOper_eq, evEff_eq] at h
  split at h
  · cases h
  · rename_i tmps' kv1 tv r he
    cases h
    split at he
    · cases he
    · cases he; exact ⟨rfl, rfl, rfl⟩
    · split at he
      · cases he
      · rename_i r0 hb
        cases he
        rcases evAnd_some hb with ⟨r1, hb1, e⟩ | ⟨hq, _⟩
        · subst e
          exact evBody_quiet (by simpa using hb1)
        · cases hq

theorem evN_quiet {X : Cx} {m : Nat} {os : List Oper} {s0 : St} : ∀ {i : Nat} {s : St} {kv : KV}, i ≤ m → evN X m os s0 i = some (s, kv) → s.heap = s0.heap ∧ s.nid = s0.nid ∧ s.ds = s0.ds
  | 0, s, kv, _, h => by simp only [evN] at h; cases h; exact ⟨rfl, rfl, rfl⟩
  | i + 1, s, kv, hi, h => by
    obtain ⟨s1, k1, o, h1, _, h2⟩ := evN_succ h
    obtain ⟨e1, e2, e3⟩ := evN_quiet (by omega) h1
    rw [show Nat.blt i m = true by simp [Nat.blt_eq]; omega] at h2
    obtain ⟨g1, g2, g3⟩ := evOper_quiet h2
    exact ⟨g1.trans e1, g2.trans e2, g3.trans e3⟩

theorem evN_keys {X : Cx} {m : Nat} {os : List Oper} {s0 : St} : ∀ {i : Nat} {s : St} {kv : KV}, evN X m os s0 i = some (s, kv) → (∃ β, KVok kv β) ∧ s.tmps.length = s0.tmps.length
  | 0, s, kv, h => by simp only [evN] at h; cases h; exact ⟨⟨fun _ => false, fun p hp => by cases hp⟩, rfl⟩
  | i + 1, s, kv, h => by
    obtain ⟨s1, k1, o, h1, _, h2⟩ := evN_succ h
    obtain ⟨e1, e2⟩ := evN_keys h1
    rw [evOper_eq] at h2
    split at h2
    · cases h2
    · rename_i he
      cases h2
      obtain ⟨g1, _, g3⟩ := evEff_ex he e1
      exact ⟨g1, by rw [setT_length]; omega⟩

theorem evN_sub {X : Cx} {m : Nat} {os : List Oper} {s0 : St} {β : Nat → Bool} : ∀ {j i : Nat} {si sj : St} {ki kj : KV}, i ≤ j → evN X m os s0 i = some (si, ki) → evN X m os s0 j = some (sj, kj) → KVok kj β → KVok ki β
  | 0, i, si, sj, ki, kj, hij, h1, h2, hk => by
    obtain rfl : i = 0 := by omega
    rw [h1] at h2; cases h2; exact hk
  | j + 1, i, si, sj, ki, kj, hij, h1, h2, hk => by
    by_cases e : i = j + 1
    · subst e; rw [h1] at h2; cases h2; exact hk
    · obtain ⟨s, kv, o, hs, _, ho⟩ := evN_succ h2
      rw [evOper_eq] at ho
      split at ho
      · cases ho
      · rename_i he
        cases ho
        exact evN_sub (by omega) h1 hs ((evEff_ex he (evN_keys hs).1).2.1 β hk)

/-- Guards register keys: what is known of a slot that nobody writes stays. -/
theorem evGuard_slot {auto : Bool} {os : List Oper} {o : Oper} {tmps tmps' : List TV} {kv kv' : KV} {sk : Bool} {conds : List (Nat × Bool)} (h : evGuard auto os o tmps kv = some (sk, tmps', kv', conds))
    {ρ : Num} {β : Nat → Bool} (hk : KVok kv' β) (t : Nat) (r : Value) : TRel ρ β (getT tmps t) r ↔ TRel ρ β (getT tmps' t) r := by
  unfold evGuard at h
  simp only [setF_eq] at h
  split at h
  · cases h; exact Iff.rfl
  · rename_i j want hg
    split at h
    case h_1 => cases h
    rename_i d hd
    split at h
    · rename_i x hx
      split at h
      · split at h
        · split at h <;> (cases h; exact Iff.rfl)
        · cases h; exact Iff.rfl
        · cases h
      · split at h
        · rename_i b
          split at h
          case h_2 => cases h
          cases h
          obtain ⟨hj, hkv⟩ := hk.cons
          by_cases hdt : d = t
          · subst hdt
            by_cases hlen : d < tmps.length
            · rw [getT_set _ _ _ _ hlen, if_pos rfl, hx]
              constructor
              · intro ht; exact ⟨hj, fun _ => by simpa [TRel, rv] using ht, fun hn => absurd (V_nil β) hn⟩
              · intro ht; have := ht.2.1 (V_nil β); simpa [TRel, rv] using this
            · rw [List.set_eq_of_length_le (by omega)]
          · by_cases hlen : d < tmps.length
            · rw [getT_set _ _ _ _ hlen, if_neg hdt]
            · rw [List.set_eq_of_length_le (by omega)]
        · cases h
    · rename_i l x hx
      split at h
      case h_2 => cases h
      rename_i b
      split at h
      case h_2 => cases h
      cases h
      obtain ⟨hj, hkv⟩ := hk.cons
      by_cases hdt : d = t
      · subst hdt
        by_cases hlen : d < tmps.length
        · rw [getT_set _ _ _ _ hlen, if_pos rfl, hx]
          simp only [TRel, rv]
          constructor
          · intro ht; exact ⟨hj, ht.1, ht.2⟩
          · intro ht; exact ⟨ht.2.1, ht.2.2⟩
        · rw [List.set_eq_of_length_le (by omega)]
      · by_cases hlen : d < tmps.length
        · rw [getT_set _ _ _ _ hlen, if_neg hdt]
        · rw [List.set_eq_of_length_le (by omega)]
    · split at h
      · cases h; exact Iff.rfl
      · cases h
    · cases h

theorem evOper_slot {X : Cx} {q : Bool} {os : List Oper} {o : Oper} {s s' : St} {kv kv' : KV} (h : evOper X q os o s kv = some (s', kv')) {ρ : Num} {β : Nat → Bool} (hk : KVok kv' β) {t : Nat} (ht : o.dst ≠ some t) (r : Value) :
    TRel ρ β (getT s.tmps t) r ↔ TRel ρ β (getT s'.tmps t) r := by
  rw [evOper_eq] at h
  split at h
  · cases h
  · rename_i tmps' kv1 tv r0 he
    cases h
    show _ ↔ TRel ρ β (getT (setT tmps' o.dst tv) t) r
    rw [setT_getT, if_neg (fun hh => ht hh.1)]
    rw [evEff_eq] at he
    split at he
    · cases he
    · rename_i hg; cases he; exact evGuard_slot hg hk t r
    · rename_i hg
      split at he
      · cases he
      · cases he; exact evGuard_slot hg hk t r

theorem evN_slot {X : Cx} {m : Nat} {os : List Oper} {s0 : St} {ρ : Num} {β : Nat → Bool} {t : Nat} {r : Value} : ∀ {j i : Nat} {si sj : St} {ki kj : KV}, i ≤ j → evN X m os s0 i = some (si, ki) → evN X m os s0 j = some (sj, kj) → KVok kj β →
    (∀ k o, i ≤ k → k < j → os[k]? = some o → o.dst ≠ some t) → (TRel ρ β (getT si.tmps t) r ↔ TRel ρ β (getT sj.tmps t) r)
  | 0, i, si, sj, ki, kj, hij, h1, h2, _, _ => by
    obtain rfl : i = 0 := by omega
    rw [h1] at h2; cases h2; exact Iff.rfl
  | j + 1, i, si, sj, ki, kj, hij, h1, h2, hk, hw => by
    by_cases e : i = j + 1
    · subst e; rw [h1] at h2; cases h2; exact Iff.rfl
    · obtain ⟨s, kv, o, hs, hoj, ho⟩ := evN_succ h2
      have hkv : KVok kv β := evN_sub (by omega) hs h2 hk
      exact (evN_slot (by omega) h1 hs hkv (fun k o' hk1 hk2 => hw k o' hk1 (by omega))).trans (evOper_slot ho hk (hw j o (by omega) (by omega) hoj) r)

def Lst (listed : Array Bool) (i : Nat) : Prop := listed.getD i false = true

theorem lst_true {listed : Array Bool} {i : Nat} : listed.getD i true = false ↔ i < listed.size ∧ ¬ Lst listed i := by
  unfold Lst
  rcases Nat.lt_or_ge i listed.size with h | h
  · simp [h]
  · simp [Array.getElem?_eq_none h]; omega

theorem lst_set {listed : Array Bool} {i j : Nat} (hi : i < listed.size) : Lst (listed.setIfInBounds i true) j ↔ j = i ∨ Lst listed j := by
  unfold Lst
  by_cases h : i = j
  · subst h; simp [hi]
  · rw [getD_set_ne false h]
    constructor
    · exact .inr
    · rintro (rfl | h')
      · exact absurd rfl h
      · exact h'

theorem ready_iff {os : List Oper} {listed : Array Bool} {j : Nat} : j ∈ Region.ready .any ⟨os⟩ listed ↔ (j < listed.size ∧ ¬ Lst listed j) ∧ ∃ o, os[j]? = some o ∧ ∀ e ∈ predsOf o, Lst listed e := by
  rw [mem_ready, lst_true]
  simp only [List.getElem?_toArray]
  constructor
  · rintro ⟨h1, o, ho, h⟩
    refine ⟨h1, o, ho, fun e he => ?_⟩
    obtain ⟨x, hx, hb, rfl⟩ := predsOf_iff.1 he
    exact h x hx hb
  · rintro ⟨h1, o, ho, h⟩
    exact ⟨h1, o, ho, fun e he hb => h e.on (predsOf_iff.2 ⟨e, he, hb, rfl⟩)⟩

def unl (listed : Array Bool) (n : Nat) : Nat := (List.range n).countP fun i => !listed.getD i false

theorem countP_lt {p q : Nat → Bool} {x : Nat} : ∀ {l : List Nat}, (∀ y, q y = true → p y = true) → x ∈ l → p x = true → q x = false → l.countP q < l.countP p
  | [], _, hx, _, _ => by cases hx
  | y :: l, h, hx, hp, hq => by
    have hle : l.countP q ≤ l.countP p := List.countP_mono_left (fun z _ hz => h z hz)
    rw [List.countP_cons, List.countP_cons]
    rcases List.mem_cons.1 hx with rfl | hx
    · simp [hp, hq]; omega
    · have := countP_lt h hx hp hq
      by_cases hqy : q y = true
      · simp [hqy, h y hqy]; exact this
      · simp [hqy]; split <;> omega

theorem unl_set {listed : Array Bool} {n i : Nat} (hi : i < n) (hs : listed.size = n) (hl : ¬ Lst listed i) : unl (listed.setIfInBounds i true) n < unl listed n := by
  refine countP_lt (x := i) (fun y hy => ?_) (List.mem_range.2 hi) ?_ ?_
  · simp only [Bool.not_eq_true'] at hy ⊢
    cases h : listed.getD y false
    · rfl
    · have : Lst (listed.setIfInBounds i true) y := (lst_set (by omega)).2 (.inr h)
      rw [this] at hy; cases hy
  · simp only [Bool.not_eq_true']
    cases h : listed.getD i false
    · rfl
    · exact absurd h hl
  · have : Lst (listed.setIfInBounds i true) i := (lst_set (by omega)).2 (.inl rfl)
    rw [this]; rfl

theorem unl_zero {listed : Array Bool} {n i : Nat} (h : unl listed n = 0) (hi : i < n) : Lst listed i := by
  unfold unl at h
  rw [List.countP_eq_zero] at h
  have := h i (List.mem_range.2 hi)
  simpa [Lst] using this

/-- While not all of the first m are done: what the frame and the world are. -/
structure Half (X : Cx) (J : Inv X.P) (B : Nat) (M : Nat → Prop) (w0 : Bas) (os : List Oper) (m : Nat) (s0 : St) (a0 : Act) (ρ : Num) (sm : St) (km : KV) (listed : Array Bool) (a : Act) (w : World) : Prop where
  size : listed.size = os.length
  closed : ∀ j o, os[j]? = some o → Lst listed j → ∀ e ∈ predsOf o, Lst listed e
  late : ∀ t, m ≤ t → ¬ Lst listed t
  asize : a.tmps.size = s0.tmps.length
  defers : a.defers = w0.dfs
  base : B ≤ w.heap.size
  inv : J.I w
  keeps : Keeps B M w0.w w
  sim : ∀ ρ', Agree s0.nid ρ ρ' → Sim X.P B M ρ' s0.heap w
  old : ∀ t, (∀ k o, k < m → Lst listed k → os[k]? = some o → o.dst ≠ some t) → a.tmps.getD t undef = a0.tmps.getD t undef
  new : ∀ k o d, k < m → Lst listed k → os[k]? = some o → o.dst = some d → ∀ ρ', Agree s0.nid ρ ρ' → ∀ β, KVok km β → TRel ρ' β (getT sm.tmps d) (a.tmps.getD d undef)

theorem least {p : Nat → Prop} [DecidablePred p] : ∀ (n : Nat), (∃ i, i < n ∧ p i) → ∃ i, i < n ∧ p i ∧ ∀ j, j < i → ¬ p j
  | 0, h => by obtain ⟨i, hi, _⟩ := h; omega
  | n + 1, h => by
    by_cases hn : ∃ i, i < n ∧ p i
    · obtain ⟨i, h1, h2, h3⟩ := least n hn
      exact ⟨i, by omega, h2, h3⟩
    · obtain ⟨i, hi, hp⟩ := h
      have : i = n := by
        rcases Nat.lt_or_ge i n with h | h
        · exact absurd ⟨i, h, hp⟩ hn
        · omega
      subst this
      exact ⟨i, by omega, hp, fun j hj hpj => hn ⟨j, hj, hpj⟩⟩

theorem half_all {X : Cx} {J : Inv X.P} {B : Nat} {M : Nat → Prop} {w0 : Bas} {os : List Oper} {m : Nat} {s0 : St} {a0 : Act} {ρ : Num} {sm : St} {km : KV} (hm : evN X m os s0 m = some (sm, km))
    (h0 : ∀ ρ', Agree s0.nid ρ ρ' → ∀ β t, TRel ρ' β (getT s0.tmps t) (a0.tmps.getD t undef)) {listed : Array Bool} {a : Act} {w : World}
    (h : Half X J B M w0 os m s0 a0 ρ sm km listed a w) (hρ0 : w0.n ≤ s0.nid ∧ Agree w0.n w0.ρ ρ) (hall : ∀ k, k < m → Lst listed k) : RepR X.P J B M w0 km sm a w := by
  obtain ⟨e1, e2, _⟩ := evN_quiet (Nat.le_refl _) hm
  obtain ⟨e4, e5⟩ := evN_keys hm
  refine ⟨by rw [e5]; exact h.asize, h.defers, h.base, h.inv, h.keeps, e4, ρ, by rw [e2]; exact hρ0, fun ρ' ha => ?_⟩
  rw [e2] at ha
  rw [e1]
  refine ⟨h.sim ρ' ha, fun β hβ t => ?_⟩
  by_cases hw : ∃ k o, k < m ∧ os[k]? = some o ∧ o.dst = some t
  · obtain ⟨k, o, hk, ho, hdst⟩ := hw
    exact h.new k o t hk (hall k hk) ho hdst ρ' ha β hβ
  · have hno : ∀ k o, k < m → os[k]? = some o → o.dst ≠ some t := fun k o hk ho e => hw ⟨k, o, hk, ho, e⟩
    rw [h.old t (fun k o hk _ ho => hno k o hk ho)]
    exact (evN_slot (Nat.zero_le m) rfl hm hβ (fun k o _ hk ho => hno k o hk ho)).1 (h0 ρ' ha β t)

theorem half_step {X : Cx} {J : Inv X.P} (hX : CxOk X J) {B : Nat} {M : Nat → Prop} (hp : Par X.P B M) {w0 : Bas} {os : List Oper} {m : Nat} (hd : Draws os m) {s0 : St} {a0 : Act} {ρ : Num} {sm : St} {km : KV} (hm : evN X m os s0 m = some (sm, km)) (hl : allP sm.obs)
    (h0 : ∀ ρ', Agree s0.nid ρ ρ' → ∀ β t, TRel ρ' β (getT s0.tmps t) (a0.tmps.getD t undef)) {listed : Array Bool} {a : Act} {w : World}
    (h : Half X J B M w0 os m s0 a0 ρ sm km listed a w) {i : Nat} (him : i < m) (hr : i ∈ Region.ready .any ⟨os⟩ listed) {rb : Option Nat} {K : Act → World → Prop} {Q : Exit → Act → World → Prop}
    (hK : ∀ a' w', Half X J B M w0 os m s0 a0 ρ sm km (listed.setIfInBounds i true) a' w' → K a' w') : wpOpIn (Fl rb) 0 X.P ⟨os⟩ Q i K a w := by
  obtain ⟨⟨hi, hnl⟩, o, ho, hpre⟩ := ready_iff.1 hr
  obtain ⟨⟨s1, k1⟩, hq1⟩ := evN_some (i := i + 1) (by omega) hm
  obtain ⟨si, ki, o', hsi, ho', hop⟩ := evN_succ hq1
  rw [ho] at ho'
  cases ho'
  rw [show Nat.blt i m = true by simp [Nat.blt_eq]; exact him] at hop
  have hobs := evN_obs (by omega) hq1 hm hl
  obtain ⟨e1, e2, e3⟩ := evN_quiet (by omega : i ≤ m) hsi
  obtain ⟨_, elen⟩ := evN_keys hsi
  rw [evOper_eq] at hop
  split at hop
  · cases hop
  rename_i tmps' kv1 tv r he
  cases hop
  simp only [allP_append] at hobs
  have hsub : ∀ β, KVok km β → KVok k1 β := fun β hβ => evN_sub (by omega) hq1 hm hβ
  have hsubi : ∀ β, KVok km β → KVok ki β := fun β hβ => evN_sub (by omega) hsi hm hβ
  -- what op i looks at is as the text's order has it
  have hT : ∀ ρ', Agree s0.nid ρ ρ' → ∀ β, KVok km β → ∀ t ∈ looks os o, TRel ρ' β (getT si.tmps t) (a.tmps.getD t undef) := by
    intro ρ' ha β hβ t ht
    by_cases hw : ∃ k ok, k < m ∧ Lst listed k ∧ os[k]? = some ok ∧ ok.dst = some t
    · obtain ⟨k, ok, hk, hlk, hok, hdk⟩ := hw
      have hki : k < i := by
        rcases hd.slot i o him ho t ht k ok hk hok hdk with e | e | e
        · subst e; exact absurd hlk hnl
        · exact hd.fwd i o ho k e
        · exact absurd (h.closed k ok hok hlk i e) hnl
      have := h.new k ok t hk hlk hok hdk ρ' ha β hβ
      refine (evN_slot (by omega : i ≤ m) hsi hm hβ (fun k2 o2 hk1 hk2 ho2 hd2 => ?_)).2 this
      have := hd.dup k k2 ok o2 t hk hk2 hok ho2 hdk hd2
      omega
    · have hno : ∀ k ok, k < m → Lst listed k → os[k]? = some ok → ok.dst ≠ some t := fun k ok hk hlk hok e => hw ⟨k, ok, hk, hlk, hok, e⟩
      rw [h.old t hno]
      refine (evN_slot (Nat.zero_le i) rfl hsi (hsubi β hβ) (fun k ok _ hk hok hdk => ?_)).1 (h0 ρ' ha β t)
      rcases hd.slot i o him ho t ht k ok (by omega) hok hdk with e | e | e
      · omega
      · exact hno k ok (by omega) (hpre k e) hok hdk
      · have := hd.fwd k ok hok i e
        omega
  refine evEff_sound hX ho he hobs.1 hp (ρ := ρ) (Cβ := KVok km) (evN_keys hm).1 hsub h.base h.inv (fun ρ' ha => by rw [e1]; rw [e2] at ha; exact h.sim ρ' ha)
    (fun ρ' ha β hβ t ht => hT ρ' (by rw [e2] at ha; exact ha) β hβ t ht) (fun v w' ρ1 ha hn hfin hk hq => hK _ _ ?_)
  obtain ⟨g1, g2, g3, g4, g5⟩ := hq rfl
  subst g5
  have hfin' : ∀ ρ', Agree s0.nid ρ1 ρ' → Sim X.P B M ρ' s0.heap w' ∧ ∀ β, KVok km β → TRel ρ' β tv v := fun ρ' ha' => by
    have := hfin ρ' (by rw [g3, e2]; exact ha')
    rw [g1, e1] at this
    exact this
  have hisz : i < listed.size := hi
  refine ⟨by simpa using h.size, fun j oj hoj hlj e he' => ?_, fun t ht hlt' => ?_, by rw [put_size]; exact h.asize, by rw [put_defers]; exact h.defers, Nat.le_trans h.base hk.size, J.keeps hp hk h.inv, h.keeps.trans hk,
    fun ρ' ha' => (hfin' ρ' ha').1, fun t hno => ?_, fun k ok d hkm hlk hok hdk ρ' ha' β hβ => ?_⟩
  · rw [lst_set hisz] at hlj ⊢
    rcases hlj with rfl | hlj
    · rw [ho] at hoj; cases hoj
      exact .inr (hpre e he')
    · exact .inr (h.closed j oj hoj hlj e he')
  · rw [lst_set hisz] at hlt'
    rcases hlt' with rfl | hlt'
    · omega
    · exact h.late t ht hlt'
  · rw [put_getD, if_neg (fun hh => hno i o him ((lst_set hisz).2 (.inl rfl)) ho hh.1)]
    exact h.old t (fun k ok hkm hlk hok => hno k ok hkm ((lst_set hisz).2 (.inr hlk)) hok)
  · rw [put_getD]
    by_cases hki : k = i
    · subst hki
      rw [ho] at hok
      cases hok
      by_cases hds : d < a.tmps.size
      · rw [if_pos ⟨hdk, hds⟩]
        have hslot := evN_slot (X := X) (m := m) (os := os) (s0 := s0) (ρ := ρ') (β := β) (t := d) (r := v) (by omega : k + 1 ≤ m) hq1 hm hβ (fun k2 o2 hk1 hk2 ho2 hd2 => by
          have := hd.dup k k2 o o2 d hkm hk2 ho ho2 hdk hd2
          omega)
        rw [← hslot]
        show TRel ρ' β (getT (setT tmps' o.dst tv) d) v
        obtain ⟨_, _, hl'⟩ := evEff_ex he (evN_keys hsi).1
        rw [setT_getT, if_pos ⟨hdk, by rw [hl', elen, ← h.asize]; exact hds⟩]
        exact (hfin' ρ' ha').2 β hβ
      · -- no such slot
        have hnone : getT sm.tmps d = .unk := by
          simp only [getT_def]
          have e7 : sm.tmps.length = s0.tmps.length := (evN_keys hm).2
          have e8 : a.tmps.size = s0.tmps.length := h.asize
          have e9 : a.tmps.size ≤ d := Nat.le_of_not_lt hds
          rw [List.getElem?_eq_none (by omega)]
        rw [hnone]
        trivial
    · have hlk' : Lst listed k := by
        rcases (lst_set hisz).1 hlk with e | e
        · exact absurd e hki
        · exact e
      have hne : o.dst ≠ some d := fun e => hki (hd.dup k i ok o d hkm him hok ho hdk e)
      rw [if_neg (fun hh => hne hh.1)]
      exact h.new k ok d hkm hlk' hok hdk ρ' ha' β hβ

/-- From the m-th on: one behind the other. -/
theorem tail_sound {X : Cx} {J : Inv X.P} (hX : CxOk X J) {B : Nat} {M : Nat → Prop} (hp : Par X.P B M) {w0 : Bas} {os : List Oper} {m : Nat} (hd : Draws os m) {s0 sn : St} {kn : KV} (hn : evN X m os s0 os.length = some (sn, kn)) (hl : allP sn.obs)
    {rb : Option Nat} {Q : Exit → Act → World → Prop} (hQ : ∀ a w, RepR X.P J B M w0 kn sn a w → Q .normal a w) :
    ∀ (fuel t : Nat) (listed : Array Bool) (s : St) (kv : KV) (a : Act) (w : World), m ≤ t → t ≤ os.length → os.length ≤ t + fuel → listed.size = os.length → (∀ j, j < os.length → (Lst listed j ↔ j < t)) →
      evN X m os s0 t = some (s, kv) → RepR X.P J B M w0 kv s a w → wpAnyIn (Fl rb) 0 X.P .any ⟨os⟩ Q fuel listed a w := by
  intro fuel
  induction fuel with
  | zero =>
    intro t listed s kv a w hmt htn hf hsz hL hs hR
    obtain rfl : t = os.length := by omega
    rw [hs] at hn
    cases hn
    refine ⟨?_, hQ a w hR⟩
    cases hr : Region.ready .any ⟨os⟩ listed with
    | nil => rfl
    | cons x xs =>
      have : x ∈ Region.ready .any ⟨os⟩ listed := by rw [hr]; simp
      obtain ⟨⟨h1, h2⟩, _⟩ := ready_iff.1 this
      exact absurd ((hL x (by omega)).2 (by omega)) h2
  | succ fuel ih =>
    intro t listed s kv a w hmt htn hf hsz hL hs hR
    by_cases htl : t = os.length
    · subst htl
      rw [hs] at hn
      cases hn
      refine ⟨fun _ => hQ a w hR, fun i hi => ?_⟩
      obtain ⟨⟨h1, h2⟩, _⟩ := ready_iff.1 hi
      exact absurd ((hL i (by omega)).2 (by omega)) h2
    · have htlt : t < os.length := by omega
      obtain ⟨ot, hot⟩ : ∃ o, os[t]? = some o := ⟨os[t], by simp [htlt]⟩
      refine ⟨fun h0 => ?_, fun i hi => ?_⟩
      · exfalso
        have : t ∈ Region.ready .any ⟨os⟩ listed := ready_iff.2 ⟨⟨by omega, fun h => by have := (hL t htlt).1 h; omega⟩, ot, hot, fun e he => by
          have := hd.fwd t ot hot e he
          exact (hL e (by omega)).2 this⟩
        rw [h0] at this
        cases this
      · obtain ⟨⟨h1, h2⟩, o, ho, hpre⟩ := ready_iff.1 hi
        have hit : i = t := by
          rcases Nat.lt_trichotomy i t with h | h | h
          · exact absurd ((hL i (by omega)).2 h) h2
          · exact h
          · exfalso
            have := hpre (i - 1) (hd.chain i o (by omega) ho)
            have := (hL (i - 1) (by omega)).1 this
            omega
        subst hit
        obtain ⟨⟨s1, k1⟩, hq1⟩ := evN_some (i := i + 1) (by omega) hn
        obtain ⟨s', kv', o', g1, g2, g3⟩ := evN_succ hq1
        rw [hs] at g1
        cases g1
        exact evOper_sound hX g2 g3 (evN_obs (by omega) hq1 hn hl) hp hR (fun a' w' hR' => ih (i + 1) _ s1 k1 a' w' (by omega) (by omega) (by omega) (by simpa using hsz) (fun j hj => by
          rw [lst_set (by omega)]
          constructor
          · rintro (rfl | h)
            · omega
            · have := (hL j hj).1 h; omega
          · intro h
            by_cases e : j = i
            · exact .inl e
            · exact .inr ((hL j hj).2 (by omega))) hq1 hR')

theorem sink_reach {os : List Oper} {m : Nat} (hd : Draws os m) (hm : m < os.length) {listed : Array Bool} (hcl : ∀ j o, os[j]? = some o → Lst listed j → ∀ e ∈ predsOf o, Lst listed e) {om : Oper} (hom : os[m]? = some om) (hpre : ∀ e ∈ predsOf om, Lst listed e) :
    ∀ (g i : Nat), m - i ≤ g → i < m → Lst listed i := by
  intro g
  induction g with
  | zero => intro i h1 h2; omega
  | succ g ih =>
    intro i h1 h2
    obtain ⟨j, o, hij, hjm, hoj, hin⟩ := hd.sink hm i h2
    by_cases e : j = m
    · subst e
      rw [hom] at hoj
      cases hoj
      exact hpre i hin
    · exact hcl j o hoj (ih j (by omega) (by omega)) i hin

/-- The drawn region, whatever the order. -/
theorem draw_sound {X : Cx} {J : Inv X.P} (hX : CxOk X J) {B : Nat} {M : Nat → Prop} (hp : Par X.P B M) {w0 : Bas} {os : List Oper} {m : Nat} (hd : Draws os m) {s0 sn : St} {kn : KV} (hn : evN X m os s0 os.length = some (sn, kn)) (hl : allP sn.obs)
    {a0 : Act} {ρ : Num} {sm : St} {km : KV} (hm : evN X m os s0 m = some (sm, km)) (h0 : ∀ ρ', Agree s0.nid ρ ρ' → ∀ β t, TRel ρ' β (getT s0.tmps t) (a0.tmps.getD t undef)) (hρ0 : w0.n ≤ s0.nid ∧ Agree w0.n w0.ρ ρ)
    {rb : Option Nat} {Q : Exit → Act → World → Prop} (hQ : ∀ a w, RepR X.P J B M w0 kn sn a w → Q .normal a w) :
    ∀ (fuel : Nat) (listed : Array Bool) (a : Act) (w : World), unl listed os.length ≤ fuel → Half X J B M w0 os m s0 a0 ρ sm km listed a w → wpAnyIn (Fl rb) 0 X.P .any ⟨os⟩ Q fuel listed a w := by
  intro fuel
  induction fuel with
  | zero =>
    intro listed a w hf h
    have hall : ∀ k, k < os.length → Lst listed k := fun k hk => unl_zero (by omega) hk
    have hmn : m = os.length := by
      rcases Nat.lt_or_ge m os.length with hlt | hge
      · exact absurd (hall m hlt) (h.late m (Nat.le_refl _))
      · have := hd.le; omega
    subst hmn
    exact tail_sound hX hp hd hn hl hQ 0 os.length listed sm km a w (Nat.le_refl _) (Nat.le_refl _) (by omega) h.size (fun j hj => ⟨fun _ => hj, fun _ => hall j hj⟩) hm (half_all hm h0 h hρ0 (fun k hk => hall k hk))
  | succ fuel ih =>
    intro listed a w hf h
    by_cases hall : ∀ k, k < m → Lst listed k
    · refine tail_sound hX hp hd hn hl hQ (fuel + 1) m listed sm km a w (Nat.le_refl _) hd.le ?_ h.size (fun j hj => ⟨fun hlj => ?_, fun hj' => hall j hj'⟩) hm (half_all hm h0 h hρ0 hall)
      · have hc : (List.range os.length).countP (fun i => !Nat.blt i m) ≤ unl listed os.length := by
          refine List.countP_mono_left (fun z _ hz => ?_)
          simp only [Bool.not_eq_true'] at hz ⊢
          cases hzl : listed.getD z false
          · rfl
          · exfalso
            refine h.late z ?_ hzl
            rcases Nat.lt_or_ge z m with h' | h'
            · rw [show Nat.blt z m = true by simp [Nat.blt_eq]; exact h'] at hz; cases hz
            · exact h'
        have hc2 : ∀ n, (List.range n).countP (fun i => !Nat.blt i m) = n - m := by
          intro n
          induction n with
          | zero => simp
          | succ n ihn =>
            rw [List.range_succ, List.countP_append, ihn]
            simp only [List.countP_cons, List.countP_nil, Nat.zero_add, Bool.not_eq_true']
            by_cases hnm : n < m
            · rw [if_neg (by rw [show Nat.blt n m = true by simp [Nat.blt_eq]; exact hnm]; simp)]; omega
            · rw [if_pos (by cases hb : Nat.blt n m; rfl; exact absurd (by simpa [Nat.blt_eq] using hb) hnm)]; omega
        rw [hc2] at hc
        omega
      · rcases Nat.lt_or_ge j m with h' | h'
        · exact h'
        · exact absurd hlj (h.late j h')
    · have hex : ∃ k, k < m ∧ ¬ Lst listed k := by
        rcases Classical.em (∃ k, k < m ∧ ¬ Lst listed k) with h' | h'
        · exact h'
        · exact absurd (fun k hk => Classical.byContradiction fun hn => h' ⟨k, hk, hn⟩) hall
      refine ⟨fun hr0 => ?_, fun i hi => ?_⟩
      · exfalso
        haveI : DecidablePred fun k => ¬ Lst listed k := fun k => Classical.propDecidable _
        obtain ⟨k, hk, hnl, hmin⟩ := least m hex
        obtain ⟨o, ho⟩ : ∃ o, os[k]? = some o := ⟨os[k]'(by have := hd.le; omega), by have := hd.le; simp [show k < os.length by omega]⟩
        have : k ∈ Region.ready .any ⟨os⟩ listed := ready_iff.2 ⟨⟨by rw [h.size]; have := hd.le; omega, hnl⟩, o, ho, fun e he => Classical.byContradiction fun hn => hmin e (hd.fwd k o ho e he) hn⟩
        rw [hr0] at this
        cases this
      · obtain ⟨⟨h1, h2⟩, o, ho, hpre⟩ := ready_iff.1 hi
        have hin : i < os.length := by rw [← h.size]; exact h1
        have him : i < m := by
          rcases Nat.lt_trichotomy i m with h' | h' | h'
          · exact h'
          · subst h'
            obtain ⟨k, hk, hnk⟩ := hex
            exact absurd (sink_reach hd hin h.closed ho hpre (i - k) k (Nat.le_refl _) hk) hnk
          · exact absurd (hpre (i - 1) (hd.chain i o h' ho)) (h.late (i - 1) (by omega))
        refine half_step hX hp hd hm (evN_obs hd.le hm hn hl) h0 h him hi (fun a' w' h' => ih _ a' w' ?_ h')
        have := unl_set hin h.size h2
        omega

end
end Go.Proofs.YtaopinmjgjpiiaaGreatDoor.Ev
