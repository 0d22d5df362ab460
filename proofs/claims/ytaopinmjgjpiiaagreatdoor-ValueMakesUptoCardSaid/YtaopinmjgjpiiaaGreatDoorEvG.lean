/-
  The evaluator, part G: an operation with its guard; regions whose order is the text's.
-/
import Derived.Test.YtaopinmjgjpiiaaGreatDoorEvF
namespace Go.Proofs.YtaopinmjgjpiiaaGreatDoor.Ev
open Go Go.RowKit Go.Shelf
noncomputable section

def kvP : KV → Nat → Bool → Prop
  | [], _, _ => True
  | (j, b) :: r, i, want => match Nat.beq j i with
    | true => b = want
    | false => kvP r i want

def condP (kv : KV) : List (Nat × Bool) → Prop
  | [] => True
  | [(j, want)] => kvP kv j want
  | (j, want) :: r => kvP kv j want ∧ condP kv r

def wrapObs (kv : KV) (conds : List (Nat × Bool)) (obs : List Prop) : List Prop :=
  match conds with
  | [] => obs
  | _ => obs.map fun p => condP kv conds → p

theorem kvP_of {kv : KV} {β : Nat → Bool} (h : KVok kv β) {j : Nat} {want : Bool} (hv : β j = want) : kvP kv j want := by
  induction kv with
  | nil => trivial
  | cons p kv ih =>
    obtain ⟨i, b⟩ := p
    obtain ⟨h1, h2⟩ := h.cons
    simp only [kvP]
    split
    · rename_i hb
      have := Nat.eq_of_beq_eq_true hb
      subst this
      rw [← h1, hv]
    · exact ih h2

theorem condP_of {kv : KV} {β : Nat → Bool} (h : KVok kv β) : ∀ {l : List (Nat × Bool)}, V β l → condP kv l
  | [], _ => trivial
  | [(j, want)], hv => kvP_of h (hv (j, want) (by simp))
  | (j, want) :: q :: r, hv => by
    obtain ⟨h1, h2⟩ := V_cons.1 hv
    exact ⟨kvP_of h h1, condP_of h h2⟩

theorem wrapObs_sound {kv : KV} {β : Nat → Bool} (h : KVok kv β) {conds : List (Nat × Bool)} (hv : V β conds) {obs : List Prop} (ho : allP (wrapObs kv conds obs)) : allP obs := by
  unfold wrapObs at ho
  split at ho
  · exact ho
  · rename_i hne
    clear hne
    induction obs with
    | nil => trivial
    | cons p obs ih =>
      simp only [List.map_cons, allP] at ho
      exact ⟨ho.1 (condP_of h hv), ih ho.2⟩

def setT (ts : List TV) (d : Option Nat) (x : TV) : List TV := match d with
  | none => ts
  | some d => setF ts d x

def resT (conds : List (Nat × Bool)) (v : Value) : TV := match conds with
  | [] => .v v
  | l => .sp l v

def hasC (conds : List (Nat × Bool)) : Bool := match conds with
  | [] => false
  | _ => true

/-- That the conditions hold. -/
def kvH : KV → Nat → Bool → Prop
  | [], _, _ => False
  | (j, b) :: r, i, want => match Nat.beq j i with
    | true => b = want
    | false => kvH r i want

def condH (kv : KV) : List (Nat × Bool) → Prop
  | [] => True
  | [(j, want)] => kvH kv j want
  | (j, want) :: r => kvH kv j want ∧ condH kv r

theorem kvH_of {kv : KV} {β : Nat → Bool} (h : KVok kv β) {j : Nat} {want : Bool} (hv : kvH kv j want) : β j = want := by
  induction kv with
  | nil => exact hv.elim
  | cons p kv ih =>
    obtain ⟨i, b⟩ := p
    obtain ⟨h1, h2⟩ := h.cons
    simp only [kvH] at hv
    split at hv
    · rename_i hb
      have := Nat.eq_of_beq_eq_true hb
      subst this
      rw [h1, hv]
    · exact ih h2 hv

theorem condH_of {kv : KV} {β : Nat → Bool} (h : KVok kv β) : ∀ {l : List (Nat × Bool)}, condH kv l → V β l
  | [], _ => V_nil _
  | [(_, _)], hv => V_cons.2 ⟨kvH_of h hv, V_nil _⟩
  | (_, _) :: _ :: _, hv => V_cons.2 ⟨kvH_of h hv.1, condH_of h hv.2⟩

/-- What the operation comes to where its conditions hold; one that may turn memory asks that they hold. -/
def evAnd (X : Cx) (q : Bool) (o : Oper) (conds : List (Nat × Bool)) (tmps : List TV) (H : Heap) (n : Nat) (ds : List Bool) (kv : KV) : Option CR :=
  match evBody X (q || hasC conds) o conds tmps H n ds with
  | some ⟨v, h, n', ob, ds'⟩ => some ⟨v, h, n', wrapObs kv conds ob, ds'⟩
  | none => match !q && hasC conds with
    | false => none
    | true => match evBody X false o conds tmps H n ds with
      | none => none
      | some ⟨v, h, n', ob, ds'⟩ => some ⟨v, h, n', condH kv conds :: ob, ds'⟩

theorem evAnd_some {X : Cx} {q : Bool} {o : Oper} {conds : List (Nat × Bool)} {tmps : List TV} {H : Heap} {n : Nat} {ds : List Bool} {kv : KV} {r : CR} (h : evAnd X q o conds tmps H n ds kv = some r) :
    (∃ r0, evBody X (q || hasC conds) o conds tmps H n ds = some r0 ∧ r = ⟨r0.v, r0.h, r0.n, wrapObs kv conds r0.obs, r0.ds⟩) ∨
    (q = false ∧ hasC conds = true ∧ evBody X true o conds tmps H n ds = none ∧ ∃ r0, evBody X false o conds tmps H n ds = some r0 ∧ r = ⟨r0.v, r0.h, r0.n, condH kv conds :: r0.obs, r0.ds⟩) := by
  unfold evAnd at h
  split at h
  · rename_i hb
    cases h
    exact .inl ⟨_, hb, rfl⟩
  · rename_i hb
    split at h
    · cases h
    · rename_i hq
      simp only [Bool.and_eq_true, Bool.not_eq_true'] at hq
      split at h
      · cases h
      · rename_i hb2
        cases h
        rw [hq.1, hq.2] at hb
        exact .inr ⟨hq.1, hq.2, hb, _, hb2, rfl⟩

/-- An operation with its guard: the temporaries ahead of its own result, keys, the result, the rest. -/
def evEff (X : Cx) (q : Bool) (os : List Oper) (o : Oper) (tmps : List TV) (H : Heap) (n : Nat) (ds : List Bool) (kv : KV) : Option (List TV × KV × TV × CR) :=
  match evGuard X.auto os o tmps kv with
  | none => none
  | some (true, tmps', kv', _) => some (tmps', kv', .v undef, ⟨undef, H, n, [], ds⟩)
  | some (false, tmps', kv', conds) =>
    match evAnd X q o conds tmps' H n ds kv' with
    | none => none
    | some ⟨v, h, n', ob, ds'⟩ => some (tmps', kv', resT conds v, ⟨v, h, n', ob, ds'⟩)

theorem evEff_eq (X : Cx) (q : Bool) (os : List Oper) (o : Oper) (tmps : List TV) (H : Heap) (n : Nat) (ds : List Bool) (kv : KV) : evEff X q os o tmps H n ds kv =
    match evGuard X.auto os o tmps kv with
    | none => none
    | some (true, tmps', kv', _) => some (tmps', kv', .v undef, ⟨undef, H, n, [], ds⟩)
    | some (false, tmps', kv', conds) =>
      match evAnd X q o conds tmps' H n ds kv' with
      | none => none
      | some r => some (tmps', kv', resT conds r.v, r) := by
  unfold evEff
  cases evGuard X.auto os o tmps kv with
  | none => rfl
  | some p =>
    obtain ⟨b, t, k, c⟩ := p
    cases b with
    | false =>
      dsimp only
      generalize evAnd X _ o c t H n ds k = z
      cases z <;> rfl
    | true => rfl

theorem evBody_quiet {X : Cx} {o : Oper} {conds : List (Nat × Bool)} {tmps : List TV} {H : Heap} {n : Nat} {ds : List Bool} {r : CR} (h : evBody X true o conds tmps H n ds = some r) : r.h = H ∧ r.n = n ∧ r.ds = ds := by
  unfold evBody at h
  split at h
  case h_1 => cases h
  cases hsb : s2b X.P X.auto (evo tmps conds) o.op with
  | some eb => rw [hsb] at h; cases h
  | none =>
  rw [hsb] at h
  dsimp only at h
  split at h
  · split at h
    · cases h
    · split at h
      · cases h; exact ⟨rfl, rfl, rfl⟩
      · cases h
  · split at h
    · split at h
      · split at h
        · cases h; exact ⟨rfl, rfl, rfl⟩
        · cases h
      · cases h
      · cases h
    · split at h
      · split at h
        · cases h
        · split at h
          · cases h
          · split at h
            · cases h; exact ⟨rfl, rfl, rfl⟩
            · split at h
              · cases h; exact ⟨rfl, rfl, rfl⟩
              · cases h
      · cases h
    · cases h
  · split at h
    · split at h
      · cases h; exact ⟨rfl, rfl, rfl⟩
      · cases h
    · cases h

theorem operand_looks {os : List Oper} {o : Oper} {t : Nat} (h : Operand.tmp t ∈ o.op.operands.toList) : t ∈ looks os o := by
  unfold looks Oper.looksAt
  exact List.mem_append_left _ (List.mem_filterMap.2 ⟨.tmp t, h, rfl⟩)

/-- One operation, its slots alone being known. -/
theorem evEff_sound {X : Cx} {J : Inv X.P} (hX : CxOk X J) {q : Bool} {os : List Oper} {i : Nat} {o : Oper} (hi : os[i]? = some o) {tmps tmps' : List TV} {H : Heap} {n : Nat} {ds : List Bool} {kv kv' : KV} {tv : TV} {r : CR}
    (h : evEff X q os o tmps H n ds kv = some (tmps', kv', tv, r)) (hl : allP r.obs)
    {B : Nat} {M : Nat → Prop} (hp : Par X.P B M) {ρ : Num} {Cβ : (Nat → Bool) → Prop} (hne : ∃ β, Cβ β) (hCβ : ∀ β, Cβ β → KVok kv' β) {a : Act} {w : World} (hB : B ≤ w.heap.size) (hI : J.I w)
    (hS : ∀ ρ', Agree n ρ ρ' → Sim X.P B M ρ' H w) (hT : ∀ ρ', Agree n ρ ρ' → ∀ β, Cβ β → ∀ t ∈ looks os o, TRel ρ' β (getT tmps t) (a.tmps.getD t undef))
    {rb : Option Nat} {K : Act → World → Prop} {Q : Exit → Act → World → Prop}
    (hK : ∀ v w' ρ1, Agree n ρ ρ1 → n ≤ r.n → (∀ ρ', Agree r.n ρ1 ρ' → Sim X.P B M ρ' r.h w' ∧ ∀ β, Cβ β → TRel ρ' β tv v) → Keeps B M w w' →
      (q = true → r.h = H ∧ r.ds = ds ∧ r.n = n ∧ Below w.heap.size w w' ∧ ρ1 = ρ) → K (a.put o.dst v) w') :
    wpOpIn (Fl rb) 0 X.P ⟨os⟩ Q i K a w := by
  have hoi : (⟨os⟩ : Array Oper)[i]? = some o := by simpa using hi
  unfold wpOpIn
  rw [hoi]
  simp only []
  obtain ⟨β0, hβ0⟩ := hne
  rw [evEff_eq] at h
  split at h
  · cases h
  · -- skipped
    rename_i tmps1 kv1 conds1 hg
    cases h
    have g := evGuard_sound hg (hCβ β0 hβ0) (fun t ht _ => hT ρ (Agree.refl _ _) β0 hβ0 t ht)
    rw [if_neg (by rw [g.2.1 rfl]; simp)]
    refine ⟨about_Fl, ?_⟩
    exact hK undef w ρ (Agree.refl _ _) (Nat.le_refl _) (fun ρ' ha => ⟨hS ρ' ha, fun β _ => (rv_undef ρ').symm⟩) (Keeps.refl _ _ _) (fun _ => ⟨rfl, rfl, rfl, Below.refl _ _, rfl⟩)
  · rename_i tmps1 kv1 conds hg
    split at h
    · cases h
    · rename_i r1 hand
      cases h
      have g : ∀ ρ', Agree n ρ ρ' → ∀ β, Cβ β → _ := fun ρ' ha β hβ => evGuard_sound hg (hCβ β hβ) (fun t ht _ => hT ρ' ha β hβ t ht)
      have hw : ∀ β, Cβ β → (Region.wanted o (yielded ⟨os⟩ a.tmps) = true ↔ V β conds) := fun β hβ => (g ρ (Agree.refl _ _) β hβ).2.2.1 rfl
      have run : ∀ (q' : Bool) (r0 : CR), (q = true → q' = true) → r.v = r0.v → r.h = r0.h → r.n = r0.n → r.ds = r0.ds → evBody X q' o conds tmps' H n ds = some r0 → allP r0.obs → V β0 conds →
          (if Region.wanted o (yielded ⟨os⟩ a.tmps) = true then o.wpIn (Fl rb) 0 X.P a w K Q else (∀ f, o.about X.P w a.eval = some f → (Fl rb).fn f) ∧ K (a.put o.dst undef) w) := by
        intro q' r0 hqq e1 e2 e3 e4 hb hl0 hV
        have hwt := (hw β0 hβ0).2 hV
        rw [if_pos hwt]
        refine evBody_sound hX hb hl0 hp (ρ := ρ) (β := β0) hV hB hI hS (fun ρ' ha t ht => ?_) (fun v w' ρ1 ha hn hfin hk hq => ?_)
        · exact ((g ρ' ha β0 hβ0).2.2.2 t _).1 (hT ρ' ha β0 hβ0 t (operand_looks ht))
        · refine hK v w' ρ1 ha (by omega) (fun ρ' ha' => ?_) hk (fun hq' => ?_)
          · rw [e3] at ha'
            rw [e2, e1]
            refine ⟨(hfin ρ' ha').2, fun β hβ => ?_⟩
            have hVβ := (hw β hβ).1 hwt
            unfold resT
            split
            · exact (hfin ρ' ha').1
            · exact ⟨fun _ => (hfin ρ' ha').1, fun hn => absurd hVβ hn⟩
          · obtain ⟨f1, f2, f3, f4, f5⟩ := hq (hqq hq')
            exact ⟨e2.trans f1, e4.trans f2, e3.trans f3, f4, f5⟩
      rcases evAnd_some hand with ⟨r0, hb, er⟩ | ⟨hq0, hc, _, r0, hb, er⟩
      · subst er
        by_cases hV : V β0 conds
        · exact run _ r0 (fun h => by simp [h]) rfl rfl rfl rfl hb (wrapObs_sound (hCβ β0 hβ0) hV hl) hV
        · have hwt : Region.wanted o (yielded ⟨os⟩ a.tmps) = false := by
            cases hw' : Region.wanted o (yielded ⟨os⟩ a.tmps)
            · rfl
            · exact absurd ((hw β0 hβ0).1 hw') hV
          have hcne : conds ≠ [] := fun e => by subst e; exact hV (V_nil _)
          have hq1 : (q || hasC conds) = true := by
            cases conds with
            | nil => exact absurd rfl hcne
            | cons _ _ => simp [hasC]
          rw [hq1] at hb
          obtain ⟨e1, e2, e3⟩ := evBody_quiet hb
          rw [if_neg (by rw [hwt]; simp)]
          refine ⟨about_Fl, ?_⟩
          refine hK undef w ρ (Agree.refl _ _) (by show n ≤ r0.n; omega) (fun ρ' ha => ⟨?_, fun β hβ => ?_⟩) (Keeps.refl _ _ _) (fun _ => ⟨e1, e3, e2, Below.refl _ _, rfl⟩)
          · show Sim X.P B M ρ' r0.h w
            rw [e1]
            exact hS ρ' (by rw [show r0.n = n from e2] at ha; exact ha)
          · unfold resT
            split
            · exact absurd rfl hcne
            · refine ⟨fun hv => ?_, fun _ => rfl⟩
              have := (hw β hβ).2 hv
              rw [hwt] at this
              cases this
      · subst er
        exact run false r0 (fun h => by rw [hq0] at h; cases h) rfl rfl rfl rfl hb hl.2 (condH_of (hCβ β0 hβ0) hl.1)

theorem evGuard_ex {auto : Bool} {os : List Oper} {o : Oper} {tmps tmps' : List TV} {kv kv' : KV} {sk : Bool} {conds : List (Nat × Bool)} (h : evGuard auto os o tmps kv = some (sk, tmps', kv', conds))
    (hk : ∃ β, KVok kv β) : (∃ β, KVok kv' β) ∧ (∀ β, KVok kv' β → KVok kv β) ∧ tmps'.length = tmps.length := by
  have new : ∀ (j : Nat) (b : Bool), kvGet kv j = false → ∃ β, KVok ((j, b) :: kv) β := by
    intro j b hj
    obtain ⟨β, hβ⟩ := hk
    refine ⟨fun i => if i = j then b else β i, fun p hp => ?_⟩
    rcases List.mem_cons.1 hp with rfl | hp
    · simp
    · have hne : p.1 ≠ j := by
        intro e
        have : ∀ (l : KV), p ∈ l → kvGet l j = false → False := by
          intro l
          induction l with
          | nil => intro hp; cases hp
          | cons x l ih =>
            obtain ⟨i, c⟩ := x
            intro hp hl
            simp only [kvGet, Bool.or_eq_false_iff] at hl
            rcases List.mem_cons.1 hp with rfl | hp
            · simp only at e; subst e; simp at hl
            · exact ih hp hl.2
        exact this kv hp hj
      simp [hne, hβ p hp]
  unfold evGuard at h
  simp only [setF_eq] at h
  split at h
  · cases h; exact ⟨hk, fun _ h => h, rfl⟩
  · split at h
    case h_1 => cases h
    split at h
    · split at h
      · split at h
        · split at h <;> (cases h; exact ⟨hk, fun _ h => h, rfl⟩)
        · cases h; exact ⟨hk, fun _ h => h, rfl⟩
        · cases h
      · split at h
        · split at h
          · rename_i hj; cases h; exact ⟨new _ _ hj, fun _ h => h.cons.2, by simp⟩
          · cases h
        · cases h
    · split at h
      · split at h
        · rename_i hj; cases h; exact ⟨new _ _ hj, fun _ h => h.cons.2, by simp⟩
        · cases h
      · cases h
    · split at h
      · cases h; exact ⟨hk, fun _ h => h, rfl⟩
      · cases h
    · cases h

theorem evEff_ex {X : Cx} {q : Bool} {os : List Oper} {o : Oper} {tmps tmps' : List TV} {H : Heap} {n : Nat} {ds : List Bool} {kv kv' : KV} {tv : TV} {r : CR}
    (h : evEff X q os o tmps H n ds kv = some (tmps', kv', tv, r)) (hk : ∃ β, KVok kv β) : (∃ β, KVok kv' β) ∧ (∀ β, KVok kv' β → KVok kv β) ∧ tmps'.length = tmps.length := by
  rw [evEff_eq] at h
  split at h
  · cases h
  · rename_i hg; cases h; exact evGuard_ex hg hk
  · rename_i hg
    split at h
    · cases h
    · cases h; exact evGuard_ex hg hk

/-- Registering keys leaves what is known of a slot. -/
theorem evEff_slot {X : Cx} {q : Bool} {os : List Oper} {o : Oper} {tmps tmps' : List TV} {H : Heap} {n : Nat} {ds : List Bool} {kv kv' : KV} {tv : TV} {r : CR}
    (h : evEff X q os o tmps H n ds kv = some (tmps', kv', tv, r)) {ρ : Num} {β : Nat → Bool} (hk : KVok kv' β) {a : Array Value} (hT : ∀ t ∈ looks os o, TRel ρ β (getT tmps t) (a.getD t undef)) (t : Nat) (x : Value) :
    TRel ρ β (getT tmps t) x ↔ TRel ρ β (getT tmps' t) x := by
  rw [evEff_eq] at h
  split at h
  · cases h
  · rename_i hg; cases h; exact (evGuard_sound hg hk (fun t ht _ => hT t ht)).2.2.2 t x
  · rename_i hg
    split at h
    · cases h
    · cases h; exact (evGuard_sound hg hk (fun t ht _ => hT t ht)).2.2.2 t x

def evOper (X : Cx) (q : Bool) (os : List Oper) (o : Oper) (s : St) (kv : KV) : Option (St × KV) :=
  match s with
  | ⟨tm, hp, nid, ds, obs, lp, rd, mk, bs⟩ => match evEff X q os o tm hp nid ds kv with
    | none => none
    | some (tmps', kv', tv, ⟨_, h, n, ob, ds'⟩) => some (⟨setT tmps' o.dst tv, h, n, ds', ob ++ obs, lp, rd, mk, bs⟩, kv')

theorem evOper_eq (X : Cx) (q : Bool) (os : List Oper) (o : Oper) (s : St) (kv : KV) : evOper X q os o s kv =
    match evEff X q os o s.tmps s.heap s.nid s.ds kv with
    | none => none
    | some (tmps', kv', tv, r) => some (⟨setT tmps' o.dst tv, r.h, r.n, r.ds, r.obs ++ s.obs, s.lp, s.rd, s.mks, s.bs⟩, kv') := by
  unfold evOper
  dsimp only
  generalize evEff X q os o _ _ _ _ kv = z
  cases z <;> rfl

/-- A frame and a world as the state says, within a region. -/
structure RepR (P : Program) (J : Inv P) (B : Nat) (M : Nat → Prop) (w0 : Bas) (kv : KV) (s : St) (a : Act) (w : World) : Prop where
  size : a.tmps.size = s.tmps.length
  defers : a.defers = w0.dfs
  base : B ≤ w.heap.size
  inv : J.I w
  keeps : Keeps B M w0.w w
  keys : ∃ β, KVok kv β
  rep : ∃ ρ, (w0.n ≤ s.nid ∧ Agree w0.n w0.ρ ρ) ∧ ∀ ρ', Agree s.nid ρ ρ' → Sim P B M ρ' s.heap w ∧ ∀ β, KVok kv β → ∀ t, TRel ρ' β (getT s.tmps t) (a.tmps.getD t undef)

theorem put_size (a : Act) (d : Option Nat) (v : Value) : (a.put d v).tmps.size = a.tmps.size := by
  cases d <;> simp [Act.put]
theorem put_defers (a : Act) (d : Option Nat) (v : Value) : (a.put d v).defers = a.defers := by
  cases d <;> simp [Act.put]
theorem setT_length (ts : List TV) (d : Option Nat) (x : TV) : (setT ts d x).length = ts.length := by
  cases d <;> simp [setT, setF_eq]

theorem put_getD (a : Act) (d : Option Nat) (v : Value) (t : Nat) : (a.put d v).tmps.getD t undef = if d = some t ∧ t < a.tmps.size then v else a.tmps.getD t undef := by
  cases d with
  | none => simp [Act.put]
  | some d =>
    simp only [Act.put, Option.some.injEq]
    by_cases h : d = t
    · subst h
      by_cases hl : d < a.tmps.size
      · simp [hl]
      · simp [hl]
    · simp [h]

theorem setT_getT (ts : List TV) (d : Option Nat) (x : TV) (t : Nat) : getT (setT ts d x) t = if d = some t ∧ t < ts.length then x else getT ts t := by
  cases d with
  | none => simp [setT]
  | some d =>
    simp only [setT, setF_eq, Option.some.injEq]
    by_cases h : d = t
    · subst h
      by_cases hl : d < ts.length
      · rw [getT_set _ _ _ _ hl]; simp [hl]
      · rw [List.set_eq_of_length_le (by omega)]; simp [hl]
    · by_cases hl : d < ts.length
      · rw [getT_set _ _ _ _ hl]; simp [h]
      · rw [List.set_eq_of_length_le (by omega)]; simp [h]

theorem evOper_sound {X : Cx} {J : Inv X.P} (hX : CxOk X J) {os : List Oper} {i : Nat} {o : Oper} (hi : os[i]? = some o) {q : Bool} {s s' : St} {kv kv' : KV} (h : evOper X q os o s kv = some (s', kv')) (hl : allP s'.obs)
    {B : Nat} {M : Nat → Prop} (hp : Par X.P B M) {w0 : Bas} {a : Act} {w : World} (hR : RepR X.P J B M w0 kv s a w) {rb : Option Nat} {K : Act → World → Prop} {Q : Exit → Act → World → Prop}
    (hK : ∀ a' w', RepR X.P J B M w0 kv' s' a' w' → K a' w') : wpOpIn (Fl rb) 0 X.P ⟨os⟩ Q i K a w := by
  rw [evOper_eq] at h
  split at h
  · cases h
  rename_i tmps' kv1 tv r he
  cases h
  simp only [allP_append] at hl
  obtain ⟨hex, hsub, hlen⟩ := evEff_ex he hR.keys
  obtain ⟨ρ, hρ0, hρ⟩ := hR.rep
  refine evEff_sound hX hi he hl.1 hp (ρ := ρ) (Cβ := KVok kv') hex (fun _ h => h) hR.base hR.inv (fun ρ' ha => (hρ ρ' ha).1) (fun ρ' ha β hβ t _ => (hρ ρ' ha).2 β (hsub β hβ) t) (fun v w' ρ1 ha hn hfin hk _ => hK _ _ ?_)
  refine ⟨by rw [put_size, setT_length, hlen]; exact hR.size, by rw [put_defers]; exact hR.defers, Nat.le_trans hR.base hk.size, J.keeps hp hk hR.inv, hR.keeps.trans hk, hex, ρ1, ⟨Nat.le_trans hρ0.1 hn, hρ0.2.trans ha hρ0.1⟩, fun ρ' ha' => ⟨(hfin ρ' ha').1, fun β hβ t => ?_⟩⟩
  rw [put_getD, setT_getT, hlen, hR.size]
  split
  · exact (hfin ρ' ha').2 β hβ
  · have ha0 : Agree s.nid ρ ρ' := fun j hj => (ha' j (Nat.lt_of_lt_of_le hj hn)).trans (ha j hj)
    have hTt := fun t => (hρ ρ' ha0).2 β (hsub β hβ) t
    exact (evEff_slot he hβ (fun t _ => hTt t) t _).1 (hTt t)

/-- The first i operations. -/
def evN (X : Cx) (m : Nat) (os : List Oper) (s0 : St) : Nat → Option (St × KV)
  | 0 => some (s0, [])
  | i + 1 => match evN X m os s0 i with
    | none => none
    | some (s, kv) => match nthF os i with
      | none => none
      | some o => evOper X (Nat.blt i m) os o s kv

theorem evN_succ {X : Cx} {m : Nat} {os : List Oper} {s0 : St} {i : Nat} {s' : St} {kv' : KV} (h : evN X m os s0 (i + 1) = some (s', kv')) :
    ∃ s kv o, evN X m os s0 i = some (s, kv) ∧ os[i]? = some o ∧ evOper X (Nat.blt i m) os o s kv = some (s', kv') := by
  simp only [evN, nthF_eq] at h
  split at h
  · cases h
  · rename_i s kv hs
    split at h
    · cases h
    · rename_i o ho
      exact ⟨s, kv, o, hs, ho, h⟩

theorem evOper_obs {X : Cx} {q : Bool} {os : List Oper} {o : Oper} {s s' : St} {kv kv' : KV} (h : evOper X q os o s kv = some (s', kv')) (hl : allP s'.obs) : allP s.obs := by
  rw [evOper_eq] at h
  split at h
  · cases h
  · cases h; exact ((allP_append _ _).1 hl).2

theorem evN_obs {X : Cx} {m : Nat} {os : List Oper} {s0 : St} : ∀ {j i : Nat} {si sj : St} {ki kj : KV}, i ≤ j → evN X m os s0 i = some (si, ki) → evN X m os s0 j = some (sj, kj) → allP sj.obs → allP si.obs
  | 0, i, si, sj, ki, kj, hij, h1, h2, hl => by
    obtain rfl : i = 0 := by omega
    rw [h1] at h2; cases h2; exact hl
  | j + 1, i, si, sj, ki, kj, hij, h1, h2, hl => by
    by_cases e : i = j + 1
    · subst e; rw [h1] at h2; cases h2; exact hl
    · obtain ⟨s, kv, o, hs, _, ho⟩ := evN_succ h2
      exact evN_obs (by omega) h1 hs (evOper_obs ho hl)

theorem evN_some {X : Cx} {m : Nat} {os : List Oper} {s0 : St} : ∀ {j i : Nat} {r : St × KV}, i ≤ j → evN X m os s0 j = some r → ∃ q, evN X m os s0 i = some q
  | 0, i, r, hij, h => by
    obtain rfl : i = 0 := by omega
    exact ⟨r, h⟩
  | j + 1, i, r, hij, h => by
    by_cases e : i = j + 1
    · subst e; exact ⟨r, h⟩
    · obtain ⟨s', kv'⟩ := r
      obtain ⟨s, kv, o, hs, _, _⟩ := evN_succ h
      exact evN_some (by omega) hs

theorem wpOps_seq {X : Cx} {J : Inv X.P} (hX : CxOk X J) {m : Nat} {os : List Oper} {s0 sn : St} {kn : KV} {B : Nat} {M : Nat → Prop} (hp : Par X.P B M) {w0 : Bas} {rb : Option Nat} {Q : Exit → Act → World → Prop} {n : Nat}
    (hn : evN X m os s0 n = some (sn, kn)) (hl : allP sn.obs) (hQ : ∀ a w, RepR X.P J B M w0 kn sn a w → Q .normal a w) :
    ∀ (k i : Nat) (s : St) (kv : KV) (a : Act) (w : World), i + k = n → evN X m os s0 i = some (s, kv) → RepR X.P J B M w0 kv s a w → wpOpsIn (Fl rb) 0 X.P ⟨os⟩ Q (List.range' i k) a w := by
  intro k
  induction k with
  | zero =>
    intro i s kv a w hik hs hR
    obtain rfl : i = n := by omega
    rw [hs] at hn
    cases hn
    simp only [List.range'_zero, wpOpsIn]
    exact hQ a w hR
  | succ k ih =>
    intro i s kv a w hik hs hR
    rw [List.range'_succ, wpOpsIn_cons]
    obtain ⟨q1, hq1⟩ := evN_some (i := i + 1) (by omega) hn
    obtain ⟨s1, k1⟩ := q1
    obtain ⟨s', kv', o, h1, h2, h3⟩ := evN_succ hq1
    rw [hs] at h1
    cases h1
    exact evOper_sound hX h2 h3 (evN_obs (by omega) hq1 hn hl) hp hR (fun a' w' hR' => ih (i + 1) s1 k1 a' w' (by omega) hq1 hR')

def cleanT : TV → TV
  | .v x => .v x
  | .key _ [] b => .v (.bool b)
  | _ => .unk

theorem clean_get (ts : List TV) (t : Nat) : getT (ts.map cleanT) t = cleanT (getT ts t) := by
  simp only [getT_def]
  rw [List.getElem?_map]
  cases ts[t]? <;> rfl

theorem evN_frame {X : Cx} {m : Nat} {os : List Oper} {s0 : St} : ∀ {i : Nat} {s : St} {kv : KV}, evN X m os s0 i = some (s, kv) → s.rd = s0.rd ∧ s.mks = s0.mks ∧ s.bs = s0.bs
  | 0, s, kv, h => by simp only [evN] at h; cases h; exact ⟨rfl, rfl, rfl⟩
  | i + 1, s, kv, h => by
    obtain ⟨s1, k1, o, h1, _, h2⟩ := evN_succ h
    obtain ⟨e1, e2, e3⟩ := evN_frame h1
    rw [evOper_eq] at h2
    split at h2
    · cases h2
    · cases h2; exact ⟨e1, e2, e3⟩

/-- A region is walked from where it begins. -/
theorem Rep.toR {P : Program} {J : Inv P} {B : Nat} {M : Nat → Prop} {w0 : Bas} {rb : Option Nat} {s : St} {a : Act} {w : World} (h : Rep P J B M w0 rb s a w) : RepR P J B M ⟨w, s.nid, h.rep.choose, a.defers⟩ [] s a w := by
  obtain ⟨hρ0, hρ⟩ := h.rep.choose_spec
  generalize h.rep.choose = ρ at *
  refine ⟨h.size, rfl, h.base, h.inv, Keeps.refl _ _ _, ⟨fun _ => false, fun p hp => by cases hp⟩, ρ, ⟨Nat.le_refl _, Agree.refl _ _⟩, fun ρ' ha => ⟨(hρ ρ' ha).1, fun β _ t => ?_⟩⟩
  have := (hρ ρ' ha).2.2 t
  have hp := h.plain t
  generalize getT s.tmps t = tv at *
  cases tv with
  | unk => trivial
  | v y => exact this y rfl
  | sp l y => cases hp
  | key j l b => cases hp

theorem RepR.clean {P : Program} {J : Inv P} {B : Nat} {M : Nat → Prop} {w0 : Bas} {rb : Option Nat} {kv : KV} {s0 s : St} {a0 a : Act} {w1 w : World} (h0 : Rep P J B M w0 rb s0 a0 w1) (h : RepR P J B M ⟨w1, s0.nid, h0.rep.choose, a0.defers⟩ kv s a w)
    (e1 : s.rd = s0.rd) (e2 : s.mks = s0.mks) (e3 : s.bs = s0.bs) : Rep P J B M w0 rb { s with tmps := s.tmps.map cleanT } a w := by
  obtain ⟨hρ0, hρ⟩ := h0.rep.choose_spec
  obtain ⟨ρ2, hρ20, hρ2⟩ := h.rep
  have hdef := h.defers
  have hkp := h.keeps
  simp only at hρ20 hdef hkp
  generalize h0.rep.choose = ρ at *
  obtain ⟨β, hβ⟩ := h.keys
  refine ⟨by show w0.n = s.bs; rw [e3]; exact h0.low, fun t => ?_, by simpa using h.size, h.base, h.inv, h0.keeps.trans hkp, ρ2, ⟨Nat.le_trans hρ0.1 hρ20.1, hρ0.2.trans hρ20.2 hρ0.1⟩, fun ρ' ha => ⟨(hρ2 ρ' ha).1, ?_, fun t x hx => ?_⟩⟩
  · rw [clean_get]
    generalize getT s.tmps t = tv
    cases tv with
    | key j l b => cases l <;> rfl
    | _ => rfl
  · have g := (hρ ρ' (fun i hi => (ha i (Nat.lt_of_lt_of_le hi hρ20.1)).trans (hρ20.2 i hi))).2.1
    exact ⟨by rw [hdef]; show _ = s.mks.map _; rw [e2]; exact g.defers, by show rb = s.rd.bind ρ'; rw [e1]; exact g.round⟩
  have ht := (hρ2 ρ' ha).2 β hβ t
  rw [clean_get] at hx
  generalize getT s.tmps t = tv at *
  cases tv with
  | unk => cases hx
  | v y => cases hx; exact ht
  | sp l y => cases hx
  | key j l b =>
    cases l with
    | nil =>
      cases hx
      simp only [rv]
      exact ht.2.1 (V_nil β)
    | cons _ _ => cases hx

end
end Go.Proofs.YtaopinmjgjpiiaaGreatDoor.Ev
