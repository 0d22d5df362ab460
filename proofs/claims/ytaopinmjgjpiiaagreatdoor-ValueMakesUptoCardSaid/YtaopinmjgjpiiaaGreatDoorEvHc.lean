/-
  The evaluator, part Hc: drawn regions of operations that leave memory alone, which then store in a chain; some of the former may come between or behind the stores: they are reckoned over memory without the blocks that are stored into.
-/
import Derived.Test.YtaopinmjgjpiiaaGreatDoorEvHb
namespace Go.Proofs.YtaopinmjgjpiiaaGreatDoor.Ev
open Go Go.RowKit Go.Shelf
noncomputable section

/-- A store through a temporary, of no result and unguarded: through which. -/
def storeT (o : Oper) : Option Nat :=
  match o.dst, o.guard with
  | none, none => match o.op with
    | .store _ (.tmp d) _ => some d
    | _ => none
  | _, _ => none

/-- The blocks that are stored into. -/
def storedIn (tm : List TV) : List Oper → Option (List Nat)
  | [] => some []
  | o :: r => match storeT o with
    | none => none
    | some d => match getT tm d with
      | .v (.pointer (some ⟨id, _, _⟩)) => match storedIn tm r with
        | some l => some (id :: l)
        | none => none
      | _ => none

/-- Slot t is written by none of the first but those of acc. -/
def slotAcc (acc : List Nat) (t : Nat) : Nat → List Oper → Bool
  | _, [] => true
  | k, o :: r => (match o.dst with
    | some d => !(Nat.beq d t) || memN k acc
    | none => true) && slotAcc acc t (k + 1) r

theorem slotAcc_spec {acc : List Nat} {t : Nat} : ∀ {r : List Oper} {k0 : Nat}, slotAcc acc t k0 r = true → ∀ k o, r[k]? = some o → o.dst = some t → (k0 + k) ∈ acc
  | [], k0, _, k, o, ho, _ => by simp at ho
  | x :: r, k0, h, k, o, ho, hd => by
    simp only [slotAcc, Bool.and_eq_true] at h
    cases k with
    | zero =>
      simp only [List.getElem?_cons_zero, Option.some.injEq] at ho
      subst ho
      rw [hd] at h
      simp only [Nat.beq_refl, Bool.not_true, Bool.false_or, memN_iff] at h
      exact h.1
    | succ k =>
      simp only [List.getElem?_cons_succ] at ho
      have := slotAcc_spec h.2 k o ho hd
      rw [show k0 + (k + 1) = k0 + 1 + k by omega]
      exact this

def slotsAcc (hd : List Oper) (acc : List Nat) : List Nat → Bool
  | [] => true
  | t :: r => slotAcc acc t 0 hd && slotsAcc hd acc r

theorem slotsAcc_spec {hd : List Oper} {acc : List Nat} : ∀ {l : List Nat}, slotsAcc hd acc l = true → ∀ t ∈ l, slotAcc acc t 0 hd = true
  | [], _, t, ht => by cases ht
  | x :: r, h, t, ht => by
    simp only [slotsAcc, Bool.and_eq_true] at h
    rcases List.mem_cons.1 ht with rfl | ht
    · exact h.1
    · exact slotsAcc_spec h.2 t ht

/-- What a store looks at has been written by those that it, or a store ahead of it, waits for. -/
def tailLooks (os hd : List Oper) : List Nat → List Oper → Bool
  | _, [] => true
  | acc, o :: r => slotsAcc hd (predsOf o ++ acc) (looks os o) && tailLooks os hd (predsOf o ++ acc) r

theorem tailLooks_spec {os hd : List Oper} {L : Nat → Prop} : ∀ {r : List Oper} {acc : List Nat}, tailLooks os hd acc r = true → (∀ e ∈ acc, L e) → ∀ (k : Nat) (o : Oper), r[k]? = some o → (∀ (j : Nat) (oj : Oper), j ≤ k → r[j]? = some oj → ∀ e ∈ predsOf oj, L e) →
    ∀ t ∈ looks os o, ∀ (i : Nat) (oi : Oper), hd[i]? = some oi → oi.dst = some t → L i
  | [], acc, _, _, k, o, ho, _ => by simp at ho
  | x :: r, acc, h, ha, k, o, ho, hp => by
    simp only [tailLooks, Bool.and_eq_true] at h
    have hacc : ∀ e ∈ predsOf x ++ acc, L e := fun e he => by
      rcases List.mem_append.1 he with he | he
      · exact hp 0 x (Nat.zero_le _) rfl e he
      · exact ha e he
    cases k with
    | zero =>
      simp only [List.getElem?_cons_zero, Option.some.injEq] at ho
      subst ho
      intro t ht i oi hi hd'
      have := slotAcc_spec (slotsAcc_spec h.1 t ht) i oi hi hd'
      rw [Nat.zero_add] at this
      exact hacc i this
    | succ k =>
      simp only [List.getElem?_cons_succ] at ho
      exact tailLooks_spec h.2 hacc k o ho (fun j oj hj hoj => hp (j + 1) oj (by omega) (by simpa using hoj))

/-- The first stores begin here. -/
def headLen : List Oper → Nat
  | [] => 0
  | o :: r => match storeT o with
    | some _ => 0
    | none => headLen r + 1

def floatOk (os : List Oper) (m : Nat) : Bool :=
  Nat.ble m os.length && fwdFrom 0 os && noDup (os.take m) && looksOk os (os.take m) 0 (os.take m) && tailLooks os (os.take m) [] (os.drop m) && chainFrom (m + 1) (os.drop (m + 1)) && !(anyLay m os)

structure Floats (os : List Oper) (m : Nat) : Prop where
  le : m ≤ os.length
  fwd : ∀ i o, os[i]? = some o → ∀ e ∈ predsOf o, e < i
  dup : ∀ i k oi ok d, i < m → k < m → os[i]? = some oi → os[k]? = some ok → oi.dst = some d → ok.dst = some d → i = k
  slot : ∀ i o, i < m → os[i]? = some o → ∀ t ∈ looks os o, ∀ k ok, k < m → os[k]? = some ok → ok.dst = some t → k = i ∨ k ∈ predsOf o ∨ i ∈ predsOf ok
  tail : ∀ (L : Nat → Prop) t o, m ≤ t → os[t]? = some o → (∀ j oj, m ≤ j → j ≤ t → os[j]? = some oj → ∀ e ∈ predsOf oj, L e) → ∀ x ∈ looks os o, ∀ k ok, k < m → os[k]? = some ok → ok.dst = some x → L k
  chain : ∀ t o, m < t → os[t]? = some o → (t - 1) ∈ predsOf o
  quiet : ∀ i o, i < m → os[i]? = some o → layOp o.op = false

theorem anyLay_spec : ∀ {m : Nat} {os : List Oper}, anyLay m os = false → ∀ i o, i < m → os[i]? = some o → layOp o.op = false
  | 0, _, _, i, o, hi, _ => by omega
  | m + 1, [], _, i, o, _, ho => by simp at ho
  | m + 1, x :: r, h, i, o, hi, ho => by
    simp only [anyLay, Bool.or_eq_false_iff] at h
    cases i with
    | zero => simp only [List.getElem?_cons_zero, Option.some.injEq] at ho; subst ho; exact h.1
    | succ i => simp only [List.getElem?_cons_succ] at ho; exact anyLay_spec h.2 i o (by omega) ho

theorem floatOk_spec {os : List Oper} {m : Nat} (h : floatOk os m = true) : Floats os m := by
  simp only [floatOk, Bool.and_eq_true, Bool.not_eq_true', Nat.ble_eq] at h
  obtain ⟨⟨⟨⟨⟨⟨h1, h2⟩, h3⟩, h4⟩, h5⟩, h6⟩, h7⟩ := h
  have fwd : ∀ i o, os[i]? = some o → ∀ e ∈ predsOf o, e < i := fun i o ho e he => by
    have := fwdFrom_spec h2 i o ho e he
    omega
  refine ⟨h1, fwd, fun i k oi ok d hi hk hoi hok di dk => ?_, fun i o hi ho t ht k ok hk hok hd => ?_, fun L t o hmt ho hp x hx k ok hk hok hd => ?_, fun t o ht ho => ?_, anyLay_spec h7⟩
  · exact noDup_spec h3 i k oi ok d ((take_get hi).trans hoi) ((take_get hk).trans hok) di dk
  · have := looksOk_spec h4 i o ((take_get hi).trans ho) t ht k ok ((take_get hk).trans hok) hd
    simpa using this
  · refine tailLooks_spec (L := L) h5 (fun e he => by cases he) (t - m) o (by rw [List.getElem?_drop, show m + (t - m) = t by omega]; exact ho) (fun j oj hj hoj => ?_) x hx k ok ((take_get hk).trans hok) hd
    rw [List.getElem?_drop] at hoj
    exact hp (m + j) oj (by omega) (by omega) hoj
  · have := chainFrom_spec h6 (t - (m + 1)) o (by rw [List.getElem?_drop, show m + 1 + (t - (m + 1)) = t by omega]; exact ho)
    rw [show m + 1 + (t - (m + 1)) - 1 = t - 1 by omega] at this
    exact this

theorem storedIn_spec {tm : List TV} : ∀ {r : List Oper} {ws : List Nat}, storedIn tm r = some ws → ∀ (k : Nat) (o : Oper), r[k]? = some o → ∃ d id off sp, storeT o = some d ∧ getT tm d = .v (.pointer (some ⟨id, off, sp⟩)) ∧ memN id ws = true
  | [], ws, _, k, o, ho => by simp at ho
  | x :: r, ws, h, k, o, ho => by
    simp only [storedIn] at h
    split at h
    · cases h
    rename_i d hd
    split at h
    · rename_i id off sp hg
      split at h
      · rename_i l hl
        cases h
        cases k with
        | zero =>
          simp only [List.getElem?_cons_zero, Option.some.injEq] at ho
          subst ho
          exact ⟨d, id, off, sp, hd, hg, by simp [memN]⟩
        | succ k =>
          simp only [List.getElem?_cons_succ] at ho
          obtain ⟨d', id', off', sp', h1, h2, h3⟩ := storedIn_spec hl k o ho
          exact ⟨d', id', off', sp', h1, h2, by simp [memN, h3]⟩
      · cases h
    · cases h

theorem storeT_some {o : Oper} {d : Nat} (h : storeT o = some d) : o.dst = none ∧ o.guard = none ∧ ∃ t y, o.op = .store t (.tmp d) y := by
  unfold storeT at h
  split at h
  · rename_i h1 h2
    split at h
    · rename_i t d' y ho
      cases h
      exact ⟨h1, h2, t, y, ho⟩
    · cases h
  · cases h

theorem evStore_other {P : Program} {H H' : Heap} {t : TypeId} {v : Value} {id off : Nat} {sp : Option Nat} (h : evStore P H t (.pointer (some ⟨id, off, sp⟩)) v = some H') (j : Nat) (hj : j ≠ id) : H'.get j = H.get j := by
  unfold evStore at h
  simp only [infF_eq] at h
  split at h
  case h_2 => cases h
  rename_i heq
  cases heq
  split at h
  case h_1 => cases h
  split at h
  case h_4 => cases h
  · rename_i hget
    split at h
    case h_2 => cases h
    cases h
    rw [Heap.get_set _ _ _ _ hget, if_neg (fun e => hj e.symm)]
  · rename_i hget
    split at h
    case h_2 => cases h
    cases h
    rw [Heap.get_set _ _ _ _ hget, if_neg (fun e => hj e.symm)]
  · rename_i hget
    split at h
    case h_2 => cases h
    split at h
    case h_2 => cases h
    cases h
    rw [Heap.get_set _ _ _ _ hget, if_neg (fun e => hj e.symm)]

theorem evStoreI_other {P : Program} {auto : Bool} {H H' : Heap} {t : TypeId} {v : Value} {id off : Nat} {sp : Option Nat} {l : List Prop} (h : evStoreI P auto H t (.pointer (some ⟨id, off, sp⟩)) v = some (H', l)) (j : Nat) (hj : j ≠ id) : H'.get j = H.get j := by
  unfold evStoreI at h
  simp only [infF_eq] at h
  split at h
  · cases h
  split at h
  case h_2 => cases h
  rename_i heq
  cases heq
  split at h
  case h_2 => cases h
  rename_i hget
  split at h
  case h_2 => cases h
  split at h
  case h_2 => cases h
  cases h
  rw [Heap.get_set _ _ _ _ hget, if_neg (fun e => hj e.symm)]

/-- A store turns that one block and no slot. -/
theorem evOper_store {X : Cx} {os : List Oper} {o : Oper} {s s' : St} {kv kv' : KV} {d id off : Nat} {sp : Option Nat} (hd : storeT o = some d) (hg : getT s.tmps d = .v (.pointer (some ⟨id, off, sp⟩))) (h : evOper X false os o s kv = some (s', kv')) :
    s'.tmps = s.tmps ∧ kv' = kv ∧ ∀ j, j ≠ id → s'.heap.get j = s.heap.get j := by
  obtain ⟨h1, h2, t, y, ho⟩ := storeT_some hd
  rw [evOper_eq, evEff_eq] at h
  have hgu : evGuard X.auto os o s.tmps kv = some (false, s.tmps, kv, []) := by unfold evGuard; rw [h2]
  rw [hgu] at h
  simp only at h
  split at h
  · cases h
  rename_i tmps' kv1 tv r he
  cases h
  split at he
  · cases he
  rename_i r0' hand
  cases he
  rcases evAnd_some hand with ⟨r0, hb, er⟩ | ⟨_, hc, _⟩
  case inr => cases hc
  subst er
  refine ⟨by show setT s.tmps o.dst _ = _; rw [h1]; rfl, rfl, fun j hj => ?_⟩
  show r0.h.get j = _
  unfold evBody at hb
  split at hb
  · cases hb
  rw [ho] at hb
  simp only [s2b] at hb
  split at hb
  case h_2 => cases hb
  rename_i r1 hr1
  have hr0 : r0.h = r1.h := by
    simp only [hasC, Bool.or_false] at hb
    cases hb
    rfl
  rw [hr0]
  unfold evOp at hr1
  simp only [undF_eq] at hr1
  rw [ho] at hr1
  simp only at hr1
  split at hr1
  · rename_i a v ha hv
    have : a = .pointer (some ⟨id, off, sp⟩) := by
      simp only [evo, hg, rd] at ha
      cases ha
      rfl
    subst this
    split at hr1
    · rename_i H' l hst
      cases hr1
      exact evStoreI_other hst j hj
    split at hr1
    · rename_i H' hst
      cases hr1
      exact evStore_other hst j hj
    · cases hr1
  · cases hr1

theorem evT_stores {X : Cx} {os : List Oper} {m : Nat} {s0 : St} {kv0 : KV} {ws : List Nat} (hst : ∀ k o, os[m + k]? = some o → ∃ d id off sp, storeT o = some d ∧ getT s0.tmps d = .v (.pointer (some ⟨id, off, sp⟩)) ∧ memN id ws = true) :
    ∀ {k : Nat} {s : St} {kv : KV}, evT X os m (s0, kv0) k = some (s, kv) → s.tmps = s0.tmps ∧ kv = kv0 ∧ (∀ j, memN j ws = false → s.heap.get j = s0.heap.get j) ∧ s0.nid ≤ s.nid
  | 0, s, kv, h => by simp only [evT] at h; cases h; exact ⟨rfl, rfl, fun _ _ => rfl, Nat.le_refl _⟩
  | k + 1, s, kv, h => by
    obtain ⟨s1, k1, o, h1, ho, h2⟩ := evT_succ h
    obtain ⟨e1, e2, e3, e4⟩ := evT_stores hst h1
    obtain ⟨d, id, off, sp, g1, g2, g3⟩ := hst k o ho
    obtain ⟨f1, f2, f3⟩ := evOper_store g1 (by rw [e1]; exact g2) h2
    refine ⟨f1.trans e1, f2.trans e2, fun j hj => (f3 j (fun e => by rw [e, g3] at hj; cases hj)).trans (e3 j hj), Nat.le_trans e4 ?_⟩
    obtain ⟨_, _, t, y, hop⟩ := storeT_some g1
    rw [evOper_eq, evEff_eq] at h2
    split at h2
    · cases h2
    rename_i he
    cases h2
    split at he
    · cases he
    · cases he; exact Nat.le_refl _
    · split at he
      · cases he
      · rename_i hand
        cases he
        rename_i r1 _ _ _ _
        have : ∃ q' r0 cs ts, evBody X q' o cs ts s1.heap s1.nid s1.ds = some r0 ∧ r1.n = r0.n := by
          rcases evAnd_some hand with ⟨r0, hb, er⟩ | ⟨_, _, _, r0, hb, er⟩
          · exact ⟨_, r0, _, _, hb, by rw [er]⟩
          · exact ⟨_, r0, _, _, hb, by rw [er]⟩
        obtain ⟨q', r0, cs, ts, hb, e0⟩ := this
        show s1.nid ≤ r1.n
        rw [e0]
        unfold evBody at hb
        split at hb
        · cases hb
        rw [hop] at hb
        simp only [s2b] at hb
        split at hb
        case h_2 => cases hb
        split at hb
        · cases hb; exact Nat.le_refl _
        · split at hb
          · cases hb; exact Nat.le_succ _
          · cases hb

/-- Behind t - m stores and some of the first. -/
structure HalfF (X : Cx) (J : Inv X.P) (B : Nat) (M : Nat → Prop) (w0 : Bas) (os : List Oper) (m t : Nat) (s0 : St) (a0 : Act) (ρ0 : Num) (sm : HSt) (st : St) (listed : Array Bool) (a : Act) (w : World) : Prop where
  size : listed.size = os.length
  closed : ∀ j o, os[j]? = some o → Lst listed j → ∀ e ∈ predsOf o, Lst listed e
  mt : m ≤ t
  tn : t ≤ os.length
  tl : ∀ j, m ≤ j → j < os.length → (Lst listed j ↔ j < t)
  asize : a.tmps.size = s0.tmps.length
  defers : a.defers = w0.dfs
  base : B ≤ w.heap.size
  inv : J.I w
  keeps : Keeps B M w0.w w
  old : ∀ d, (∀ k o, k < m → Lst listed k → os[k]? = some o → o.dst ≠ some d) → a.tmps.getD d undef = a0.tmps.getD d undef
  rep : ∃ ρ, Agree s0.nid ρ0 ρ ∧ ∀ ρ', Agree st.nid ρ ρ' → Sim X.P B M ρ' st.heap w ∧
    ∀ k o d, k < m → Lst listed k → os[k]? = some o → o.dst = some d → ∀ β, KVok sm.kv β → TRel ρ' β (getT sm.tm d) (a.tmps.getD d undef)

def HSt.toF (h : HSt) (s : St) : St := ⟨h.tm, s.heap, s.nid, s.ds, h.obs, s.lp, s.rd, s.mks, s.bs⟩

section
variable {X : Cx} {J : Inv X.P} (hX : CxOk X J) {B : Nat} {M : Nat → Prop} (hp : Par X.P B M) {w0 : Bas} {os : List Oper} {m : Nat} (hd : Floats os m) {s0 : St} {a0 : Act} {ρ0 : Num} {sm : HSt} {nb : Nat} {ws : List Nat}
  (hm : evHd X false os nb (dropIds ws s0.heap) s0.ds s0.tmps s0.obs m = some sm) (hst : ∀ k o, os[m + k]? = some o → ∃ d id off sp, storeT o = some d ∧ getT sm.tm d = .v (.pointer (some ⟨id, off, sp⟩)) ∧ memN id ws = true)
  (h0 : ∀ ρ', Agree s0.nid ρ0 ρ' → ∀ β t, TRel ρ' β (getT s0.tmps t) (a0.tmps.getD t undef))

include hX hp hd hm hst h0 in
theorem halfF_head (hl : allP sm.obs) {t : Nat} {st : St} {kt : KV} (ht : evT X os m (sm.toF s0, sm.kv) (t - m) = some (st, kt)) {listed : Array Bool} {a : Act} {w : World} (h : HalfF X J B M w0 os m t s0 a0 ρ0 sm st listed a w) {i : Nat} (him : i < m) (hr : i ∈ Region.ready .any ⟨os⟩ listed)
    {rb : Option Nat} {K : Act → World → Prop} {Q : Exit → Act → World → Prop} (hK : ∀ a' w', HalfF X J B M w0 os m t s0 a0 ρ0 sm st (listed.setIfInBounds i true) a' w' → K a' w') : wpOpIn (Fl rb) 0 X.P ⟨os⟩ Q i K a w := by
  obtain ⟨⟨hi, hnl⟩, o, ho, hpre⟩ := ready_iff.1 hr
  obtain ⟨s1, hq1⟩ := evHd_some (i := i + 1) (by omega) hm
  obtain ⟨si, o', tmps', tv, ob', hsi, ho', hop, e1, e3⟩ := evHd_succ hq1
  rw [ho] at ho'
  cases ho'
  have hobs := evHd_obs (by omega) hq1 hm hl
  rw [e3] at hobs
  simp only [allP_append] at hobs
  obtain ⟨_, elen⟩ := evHd_keys hsi
  have hsub : ∀ β, KVok sm.kv β → KVok s1.kv β := fun β hβ => evHd_sub (by omega) hq1 hm hβ
  have hsubi : ∀ β, KVok sm.kv β → KVok si.kv β := fun β hβ => evHd_sub (by omega) hsi hm hβ
  obtain ⟨f1, f2, f3, f4⟩ := evT_stores (s0 := sm.toF s0) (ws := ws) hst ht
  have f4 : s0.nid ≤ st.nid := f4
  obtain ⟨ρ, hρ0, hrep⟩ := h.rep
  have hisz : i < listed.size := hi
  rcases hdOp_cases hop with ⟨r, he, hr2, _, q4, _⟩ | ⟨r, _, _, q2, _⟩ | ⟨hc, _⟩ | ⟨hc, _⟩
  case inr.inl => rw [hd.quiet i o him ho] at q2; cases q2
  case inr.inr.inl => cases hc
  case inr.inr.inr => cases hc
  rw [← hr2] at hobs
  have hla : si.la = [] := by
    have key : ∀ (n : Nat) (s : HSt), n ≤ m → evHd X false os nb (dropIds ws s0.heap) s0.ds s0.tmps s0.obs n = some s → s.la = [] := by
      intro n
      induction n with
      | zero => intro s _ hs; simp only [evHd] at hs; cases hs; rfl
      | succ n ih =>
        intro s hn hs
        obtain ⟨s2, o2, _, _, _, g1, g2, g5, _⟩ := evHd_succ hs
        rcases hdOp_cases g5 with ⟨_, _, _, _, g3, _⟩ | ⟨_, _, _, g4, _⟩ | ⟨hc, _⟩ | ⟨hc, _⟩
        · rw [g3]; exact ih s2 (by omega) g1
        · rw [hd.quiet n o2 (by omega) g2] at g4; cases g4
        · cases hc
        · cases hc
    exact key i si (by omega) hsi
  generalize hHdef : offE si.ef (visO os o si.la (dropIds ws s0.heap)) = H at he
  have hH : ∀ j ob, H.get j = some ob → (dropIds ws s0.heap).get j = some ob := by
    intro j ob hj
    rw [← hHdef, hla, evHd_quiet hsi] at hj
    exact visO_get (la := []) hj
  have hrh : r.h = H := by
    rw [evEff_eq] at he
    split at he
    · cases he
    · cases he; rfl
    · split at he
      · cases he
      · rename_i hb
        cases he
        rcases evAnd_some hb with ⟨r0, hb1, er⟩ | ⟨hq0, _⟩
        · subst er; exact (evBody_quiet hb1).1
        · cases hq0
  have hT : ∀ ρ', Agree st.nid ρ ρ' → ∀ β, KVok sm.kv β → ∀ x ∈ looks os o, TRel ρ' β (getT si.tm x) (a.tmps.getD x undef) := by
    intro ρ' ha β hβ x hx
    by_cases hw : ∃ k ok, k < m ∧ Lst listed k ∧ os[k]? = some ok ∧ ok.dst = some x
    · obtain ⟨k, ok, hk, hlk, hok, hdk⟩ := hw
      have hki : k < i := by
        rcases hd.slot i o him ho x hx k ok hk hok hdk with e | e | e
        · subst e; exact absurd hlk hnl
        · exact hd.fwd i o ho k e
        · exact absurd (h.closed k ok hok hlk i e) hnl
      have := (hrep ρ' ha).2 k ok x hk hlk hok hdk β hβ
      refine (evHd_slot (by omega : i ≤ m) hsi hm hβ (fun k2 o2 hk1 hk2 ho2 hd2 => ?_)).2 this
      have := hd.dup k k2 ok o2 x hk hk2 hok ho2 hdk hd2
      omega
    · have hno : ∀ k ok, k < m → Lst listed k → os[k]? = some ok → ok.dst ≠ some x := fun k ok hk hlk hok e => hw ⟨k, ok, hk, hlk, hok, e⟩
      rw [h.old x hno]
      refine (evHd_slot (Nat.zero_le i) rfl hsi (hsubi β hβ) (fun k ok _ hk hok hdk => ?_)).1 (h0 ρ' (fun j hj => ?_) β x)
      · rcases hd.slot i o him ho x hx k ok (by omega) hok hdk with e | e | e
        · omega
        · exact hno k ok (by omega) (hpre k e) hok hdk
        · have := hd.fwd k ok hok i e
          omega
      · rw [ha j (by omega)]; exact hρ0 j hj
  refine evEffF_sound hX ho he (.inl rfl) hobs.1 hp (F := fun ρ' => Agree st.nid ρ ρ') (ρ := ρ) (Agree.refl _ _) (Cβ := KVok sm.kv) (evHd_keys hm).1 hsub h.base h.inv (fun ρ' ha => ?_) hT (fun hh => by cases hh) (fun v w' hfin hk hbl => hK _ _ ?_)
  · refine (hrep ρ' ha).1.less fun j ob hj => ?_
    obtain ⟨g1, g2⟩ := dropIds_get (hH j ob hj)
    rw [f3 j g2]
    exact g1
  refine ⟨by simpa using h.size, fun j oj hoj hlj e he' => ?_, h.mt, h.tn, fun j hj hjn => ?_, by rw [put_size]; exact h.asize, by rw [put_defers]; exact h.defers, Nat.le_trans h.base hk.size, J.keeps hp hk h.inv, h.keeps.trans hk, fun d hno => ?_,
    ρ, hρ0, fun ρ' ha => ⟨(hrep ρ' ha).1.below (hbl rfl), fun k ok d hkm hlk hok hdk β hβ => ?_⟩⟩
  · rw [lst_set hisz] at hlj ⊢
    rcases hlj with rfl | hlj
    · rw [ho] at hoj; cases hoj
      exact .inr (hpre e he')
    · exact .inr (h.closed j oj hoj hlj e he')
  · rw [lst_set hisz, ← h.tl j hj hjn]
    exact ⟨fun e => e.elim (fun e => by omega) id, .inr⟩
  · rw [put_getD, if_neg (fun hh => hno i o him ((lst_set hisz).2 (.inl rfl)) ho hh.1)]
    exact h.old d (fun k ok hkm hlk hok => hno k ok hkm ((lst_set hisz).2 (.inr hlk)) hok)
  · rw [put_getD]
    by_cases hki : k = i
    · subst hki
      rw [ho] at hok
      cases hok
      by_cases hds : d < a.tmps.size
      · rw [if_pos ⟨hdk, hds⟩]
        have hslot := evHd_slot (X := X) (os := os) (ρ := ρ') (β := β) (t := d) (r := v) (by omega : k + 1 ≤ m) hq1 hm hβ (fun k2 o2 hk1 hk2 ho2 hd2 => by
          have := hd.dup k k2 o o2 d hkm hk2 ho ho2 hdk hd2
          omega)
        rw [← hslot, e1]
        obtain ⟨_, _, hl'⟩ := evEff_ex he (evHd_keys hsi).1
        rw [setT_getT, if_pos ⟨hdk, by rw [hl', elen, ← h.asize]; exact hds⟩]
        exact (hfin ρ' ha).2 β hβ
      · have hnone : getT sm.tm d = .unk := by
          simp only [getT_def]
          have e7 : sm.tm.length = s0.tmps.length := (evHd_keys hm).2
          have e8 : a.tmps.size = s0.tmps.length := h.asize
          have e9 : a.tmps.size ≤ d := Nat.le_of_not_lt hds
          rw [List.getElem?_eq_none (by omega)]
        rw [hnone]
        trivial
    · have hlk' : Lst listed k := by
        rcases (lst_set hisz).1 hlk with e | e
        · exact absurd e hki
        · exact e
      have hne : o.dst ≠ some d := fun e => hki (hd.dup k i ok o d hkm him hok ho hdk e)
      rw [if_neg (fun hh => hne hh.1)]
      exact (hrep ρ' ha).2 k ok d hkm hlk' hok hdk β hβ

include hX hp hd hm hst h0 in
theorem halfF_tail {t : Nat} {st st' : St} {kt kt' : KV} (ht : evT X os m (sm.toF s0, sm.kv) (t - m) = some (st, kt)) {o : Oper} (ho : os[t]? = some o) (hop : evOper X false os o st kt = some (st', kt')) (hl : allP st'.obs)
    {listed : Array Bool} {a : Act} {w : World} (h : HalfF X J B M w0 os m t s0 a0 ρ0 sm st listed a w) (hpre : ∀ e ∈ predsOf o, Lst listed e) (htn : t < os.length)
    {rb : Option Nat} {K : Act → World → Prop} {Q : Exit → Act → World → Prop} (hK : ∀ a' w', HalfF X J B M w0 os m (t + 1) s0 a0 ρ0 sm st' (listed.setIfInBounds t true) a' w' → K a' w') : wpOpIn (Fl rb) 0 X.P ⟨os⟩ Q t K a w := by
  obtain ⟨f1, f2, f3, f4⟩ := evT_stores (s0 := sm.toF s0) (ws := ws) hst ht
  have f4 : s0.nid ≤ st.nid := f4
  have f1 : st.tmps = sm.tm := f1
  have f2 : kt = sm.kv := f2
  subst f2
  obtain ⟨d0, id, off, sp, g1, g2, g3⟩ := hst (t - m) o (by rw [show m + (t - m) = t by have := h.mt; omega]; exact ho)
  obtain ⟨z1, z2, z3⟩ := evOper_store g1 (by rw [f1]; exact g2) hop
  obtain ⟨y1, y2, _⟩ := storeT_some g1
  obtain ⟨ρ, hρ0, hrep⟩ := h.rep
  rw [evOper_eq] at hop
  split at hop
  · cases hop
  rename_i tmps' kv1 tv r he
  cases hop
  simp only [allP_append] at hl
  have hlt : t < listed.size := by rw [h.size]; exact htn
  subst z2
  refine evEff_sound hX ho he hl.1 hp (ρ := ρ) (Cβ := KVok sm.kv) (evHd_keys hm).1 (fun _ hh => hh) h.base h.inv (fun ρ' ha => (hrep ρ' ha).1) (fun ρ' ha β hβ x hx => ?_) (fun v w' ρ1 ha hn hfin hk _ => hK _ _ ?_)
  · rw [f1]
    by_cases hw : ∃ k ok, k < m ∧ Lst listed k ∧ os[k]? = some ok ∧ ok.dst = some x
    · obtain ⟨k, ok, hk, hlk, hok, hdk⟩ := hw
      exact (hrep ρ' ha).2 k ok x hk hlk hok hdk β hβ
    · have hno : ∀ k ok, k < m → os[k]? = some ok → ok.dst ≠ some x := fun k ok hk hok e => by
        refine hw ⟨k, ok, hk, hd.tail (Lst listed) t o h.mt ho (fun j oj hmj hjt hoj e' he' => ?_) x hx k ok hk hok e, hok, e⟩
        by_cases ejt : j = t
        · subst ejt
          rw [ho] at hoj
          cases hoj
          exact hpre e' he'
        · exact h.closed j oj hoj ((h.tl j hmj (by omega)).2 (by omega)) e' he'
      rw [h.old x (fun k ok hk _ hok => hno k ok hk hok)]
      exact (evHd_slot (Nat.zero_le m) rfl hm hβ (fun k ok _ hk hok => hno k ok hk hok)).1 (h0 ρ' (fun j hj => by rw [ha j (by omega)]; exact hρ0 j hj) β x)
  · have hput : ∀ x, (a.put o.dst v).tmps.getD x undef = a.tmps.getD x undef := fun x => by rw [put_getD, y1, if_neg (fun hh => by cases hh.1)]
    refine ⟨by simpa using h.size, fun j oj hoj hlj e he' => ?_, by have := h.mt; omega, by omega, fun j hj hjn => ?_, by rw [put_size]; exact h.asize, by rw [put_defers]; exact h.defers, Nat.le_trans h.base hk.size, J.keeps hp hk h.inv, h.keeps.trans hk, fun d hno => ?_,
      ρ1, hρ0.trans ha f4, fun ρ' ha' => ⟨(hfin ρ' ha').1, fun k ok d hkm hlk hok hdk β hβ => ?_⟩⟩
    · rw [lst_set hlt] at hlj ⊢
      rcases hlj with rfl | hlj
      · rw [ho] at hoj; cases hoj
        exact .inr (hpre e he')
      · exact .inr (h.closed j oj hoj hlj e he')
    · rw [lst_set hlt, h.tl j hj hjn]
      omega
    · rw [hput]
      exact h.old d (fun k ok hkm hlk hok => hno k ok hkm ((lst_set hlt).2 (.inr hlk)) hok)
    · rw [hput]
      have hlk' : Lst listed k := by
        rcases (lst_set hlt).1 hlk with e | e
        · have := h.mt; omega
        · exact e
      exact (hrep ρ' (fun j hj => (ha' j (Nat.lt_of_lt_of_le hj hn)).trans (ha j hj))).2 k ok d hkm hlk' hok hdk β hβ

include hX hp hd hm hst h0 in
theorem float_sound (hρ0 : w0.n ≤ s0.nid ∧ Agree w0.n w0.ρ ρ0) {sn : St} {kn : KV} (hn : evT X os m (sm.toF s0, sm.kv) (os.length - m) = some (sn, kn)) (hl : allP sn.obs) {rb : Option Nat} {Q : Exit → Act → World → Prop} (hQ : ∀ a w, RepR X.P J B M w0 kn sn a w → Q .normal a w) :
    ∀ (fuel t : Nat) (st : St) (kt : KV) (listed : Array Bool) (a : Act) (w : World), unl listed os.length ≤ fuel → evT X os m (sm.toF s0, sm.kv) (t - m) = some (st, kt) → HalfF X J B M w0 os m t s0 a0 ρ0 sm st listed a w → wpAnyIn (Fl rb) 0 X.P .any ⟨os⟩ Q fuel listed a w := by
  have hlm : allP sm.obs := evT_obs (X := X) (os := os) (m := m) (Nat.zero_le _) rfl hn hl
  -- all are done
  have fin : ∀ (t : Nat) (st : St) (kt : KV) (listed : Array Bool) (a : Act) (w : World), evT X os m (sm.toF s0, sm.kv) (t - m) = some (st, kt) → HalfF X J B M w0 os m t s0 a0 ρ0 sm st listed a w → (∀ k, k < os.length → Lst listed k) → Q .normal a w := by
    intro t st kt listed a w ht h hall
    have htn : t = os.length := by
      rcases Nat.lt_or_ge t os.length with hlt | hge
      · have := (h.tl t h.mt hlt).1 (hall t hlt)
        omega
      · have := h.tn; omega
    subst htn
    rw [ht] at hn
    cases hn
    refine hQ a w ?_
    obtain ⟨f1, f2, f3, f4⟩ := evT_stores (s0 := sm.toF s0) (ws := ws) hst ht
    have f1 : sn.tmps = sm.tm := f1
    have f2 : kn = sm.kv := f2
    have f4 : s0.nid ≤ sn.nid := f4
    obtain ⟨ρ, hρ, hrep⟩ := h.rep
    obtain ⟨k1, k2⟩ := evHd_keys hm
    subst f2
    refine ⟨by rw [f1, k2]; exact h.asize, h.defers, h.base, h.inv, h.keeps, k1, ρ, ⟨Nat.le_trans hρ0.1 f4, hρ0.2.trans hρ hρ0.1⟩, fun ρ' ha => ⟨(hrep ρ' ha).1, fun β hβ x => ?_⟩⟩
    rw [f1]
    by_cases hw : ∃ k o, k < m ∧ os[k]? = some o ∧ o.dst = some x
    · obtain ⟨k, o, hk, ho, hdk⟩ := hw
      exact (hrep ρ' ha).2 k o x hk (hall k (by have := hd.le; omega)) ho hdk β hβ
    · have hno : ∀ k o, k < m → os[k]? = some o → o.dst ≠ some x := fun k o hk ho e => hw ⟨k, o, hk, ho, e⟩
      rw [h.old x (fun k o hk _ ho => hno k o hk ho)]
      exact (evHd_slot (Nat.zero_le m) rfl hm hβ (fun k o _ hk ho => hno k o hk ho)).1 (h0 ρ' (fun j hj => by rw [ha j (by omega)]; exact hρ j hj) β x)
  intro fuel
  induction fuel with
  | zero =>
    intro t st kt listed a w hf ht h
    have hall : ∀ k, k < os.length → Lst listed k := fun k hk => unl_zero (by omega) hk
    refine ⟨?_, fin t st kt listed a w ht h hall⟩
    cases hr : Region.ready .any ⟨os⟩ listed with
    | nil => rfl
    | cons x xs =>
      have : x ∈ Region.ready .any ⟨os⟩ listed := by rw [hr]; simp
      obtain ⟨⟨h1, h2⟩, _⟩ := ready_iff.1 this
      exact absurd (hall x (by rw [← h.size]; exact h1)) h2
  | succ fuel ih =>
    intro t st kt listed a w hf ht h
    refine ⟨fun hr0 => fin t st kt listed a w ht h (fun k hk => Classical.byContradiction fun hnk => ?_), fun i hi => ?_⟩
    · haveI : DecidablePred fun k => ¬ Lst listed k := fun k => Classical.propDecidable _
      obtain ⟨k', hk', hnl, hmin⟩ := least (p := fun k => ¬ Lst listed k) os.length ⟨k, hk, hnk⟩
      obtain ⟨o, ho⟩ : ∃ o, os[k']? = some o := ⟨os[k'], by simp [hk']⟩
      have : k' ∈ Region.ready .any ⟨os⟩ listed := ready_iff.2 ⟨⟨by rw [h.size]; exact hk', hnl⟩, o, ho, fun e he => Classical.byContradiction fun hn' => hmin e (hd.fwd k' o ho e he) hn'⟩
      rw [hr0] at this
      cases this
    · obtain ⟨⟨h1, h2⟩, o, ho, hpre⟩ := ready_iff.1 hi
      have hin : i < os.length := by rw [← h.size]; exact h1
      have hun := unl_set hin h.size h2
      by_cases him : i < m
      · exact halfF_head hX hp hd hm hst h0 hlm ht h him hi (fun a' w' h' => ih t st kt _ a' w' (by omega) ht h')
      · have hit : i = t := by
          rcases Nat.lt_trichotomy i t with h' | h' | h'
          · exact absurd ((h.tl i (by omega) hin).2 h') h2
          · exact h'
          · have := hpre (i - 1) (hd.chain i o (by have := h.mt; omega) ho)
            have := (h.tl (i - 1) (by have := h.mt; omega) (by omega)).1 this
            omega
        subst hit
        obtain ⟨⟨s1, k1⟩, hq1⟩ := evT_some (i := i - m + 1) (by omega) hn
        obtain ⟨s', kv', o', q1, q2, q3⟩ := evT_succ hq1
        rw [ht] at q1
        cases q1
        rw [show m + (i - m) = i by omega] at q2
        rw [ho] at q2
        cases q2
        exact halfF_tail hX hp hd hm hst h0 ht ho q3 (evT_obs (by omega) hq1 hn hl) h hpre hin (fun a' w' h' => ih (i + 1) s1 k1 _ a' w' (by omega) (by rw [show i + 1 - m = i - m + 1 by omega]; exact hq1) h')
end

def eqNs : List Nat → List Nat → Bool
  | [], [] => true
  | i :: r, j :: r' => Nat.beq i j && eqNs r r'
  | _, _ => false

def evFloat (X : Cx) (os : List Oper) (m : Nat) (s : St) : Option St :=
  match s with
  | ⟨tm, hp, nid, ds, obs, lp, rd, mk, bs⟩ => match storedIn tm (os.drop m) with
    | none => none
    | some ws => match evHd X false os nid (dropIds ws hp) ds tm obs m with
      | none => none
      | some ⟨tm', _, ob, kv, _, _⟩ => match storedIn tm' (os.drop m) with
        | none => none
        | some ws' => match eqNs ws ws' with
          | false => none
          | true => match evT X os m (⟨tm', hp, nid, ds, ob, lp, rd, mk, bs⟩, kv) (os.length - m) with
            | none => none
            | some (s', _) => some s'

theorem eqNs_spec' : ∀ {l l' : List Nat}, eqNs l l' = true → l = l'
  | [], [], _ => rfl
  | [], _ :: _, h => by simp [eqNs] at h
  | _ :: _, [], h => by simp [eqNs] at h
  | i :: r, j :: r', h => by
    simp only [eqNs, Bool.and_eq_true, Nat.beq_eq] at h
    rw [h.1, eqNs_spec' h.2]

theorem evFloat_some {X : Cx} {os : List Oper} {m : Nat} {s s' : St} (h : evFloat X os m s = some s') :
    ∃ ws hm kn, evHd X false os s.nid (dropIds ws s.heap) s.ds s.tmps s.obs m = some hm ∧ storedIn hm.tm (os.drop m) = some ws ∧ evT X os m (hm.toF s, hm.kv) (os.length - m) = some (s', kn) := by
  unfold evFloat at h
  dsimp only at h
  split at h
  · cases h
  rename_i ws hws
  split at h
  · cases h
  rename_i he
  split at h
  · cases h
  rename_i ws' hws'
  split at h
  · cases h
  rename_i hq
  have := eqNs_spec' hq
  subst this
  split at h
  · cases h
  rename_i kn ht
  cases h
  exact ⟨ws, _, _, he, hws', ht⟩

end
end Go.Proofs.YtaopinmjgjpiiaaGreatDoor.Ev
