/-
  The evaluator, part Hd: drawn regions whose operations that may turn memory stand in a chain; all others are still, and come to the same wherever they may come.
-/
import Derived.Test.YtaopinmjgjpiiaaGreatDoorEvHc
namespace Go.Proofs.YtaopinmjgjpiiaaGreatDoor.Ev
open Go Go.RowKit Go.Shelf
noncomputable section

/-! Equal values, as far as it is seen at once. -/

def eqBytes : List UInt8 → List UInt8 → Bool
  | [], [] => true
  | a :: l, b :: m => Nat.beq a.toNat b.toNat && eqBytes l m
  | _, _ => false

theorem eqBytes_spec : ∀ {l m : List UInt8}, eqBytes l m = true → l = m
  | [], [], _ => rfl
  | [], _ :: _, h => by simp [eqBytes] at h
  | _ :: _, [], h => by simp [eqBytes] at h
  | a :: l, b :: m, h => by
    simp only [eqBytes, Bool.and_eq_true, Nat.beq_eq] at h
    rw [UInt8.toNat_inj.1 h.1, eqBytes_spec h.2]

def eqInt : Int → Int → Bool
  | .ofNat a, .ofNat b => Nat.beq a b
  | .negSucc a, .negSucc b => Nat.beq a b
  | _, _ => false

theorem eqInt_spec : ∀ {a b : Int}, eqInt a b = true → a = b
  | .ofNat a, .ofNat b, h => by simp only [eqInt, Nat.beq_eq] at h; rw [h]
  | .negSucc a, .negSucc b, h => by simp only [eqInt, Nat.beq_eq] at h; rw [h]
  | .ofNat a, .negSucc b, h => by simp [eqInt] at h
  | .negSucc a, .ofNat b, h => by simp [eqInt] at h

def eqSpot : Option Nat → Option Nat → Bool
  | none, none => true
  | some a, some b => Nat.beq a b
  | _, _ => false

theorem eqSpot_spec : ∀ {a b : Option Nat}, eqSpot a b = true → a = b
  | none, none, _ => rfl
  | some a, some b, h => by simp only [eqSpot, Nat.beq_eq] at h; rw [h]
  | none, some b, h => by simp [eqSpot] at h
  | some a, none, h => by simp [eqSpot] at h

def eqAddr : Option Addr → Option Addr → Bool
  | none, none => true
  | some ⟨b, o, s⟩, some ⟨b', o', s'⟩ => Nat.beq b b' && Nat.beq o o' && eqSpot s s'
  | _, _ => false

theorem eqAddr_spec : ∀ {a b : Option Addr}, eqAddr a b = true → a = b
  | none, none, _ => rfl
  | some ⟨b, o, s⟩, some ⟨b', o', s'⟩, h => by
    simp only [eqAddr, Bool.and_eq_true, Nat.beq_eq] at h
    rw [h.1.1, h.1.2, eqSpot_spec h.2]
  | none, some b, h => by simp [eqAddr] at h
  | some a, none, h => by simp [eqAddr] at h

def eqFn : Fn → Fn → Bool
  | .func a, .func b => Nat.beq a b
  | .yield a, .yield b => Nat.beq a b
  | _, _ => false

theorem eqFn_spec : ∀ {a b : Fn}, eqFn a b = true → a = b
  | .func a, .func b, h => by simp only [eqFn, Nat.beq_eq] at h; rw [h]
  | .yield a, .yield b, h => by simp only [eqFn, Nat.beq_eq] at h; rw [h]
  | a, b, h => by
    unfold eqFn at h
    split at h
    · rw [Nat.beq_eq] at h; rw [h]
    · rw [Nat.beq_eq] at h; rw [h]
    · cases h

mutual
def eqV : Value → Value → Bool
  | .bool a, w => match w with
    | .bool b => beqB a b
    | _ => false
  | .int k a, w => match w with
    | .int k' b => decide (k = k') && eqInt a b
    | _ => false
  | .float k a, w => match w with
    | .float k' b => decide (k = k') && Nat.beq a b
    | _ => false
  | .string ⟨⟨s⟩⟩, w => match w with
    | .string ⟨⟨t⟩⟩ => eqBytes s t
    | _ => false
  | .pointer a, w => match w with
    | .pointer b => eqAddr a b
    | _ => false
  | .slice a n c, w => match w with
    | .slice b n' c' => eqAddr a b && Nat.beq n n' && Nat.beq c c'
    | _ => false
  | .map a, w => match w with
    | .map b => eqSpot a b
    | _ => false
  | .func f a c, w => match w with
    | .func f' a' c' => eqFn f f' && eqA a a' && eqA c c'
    | _ => false
  | .nilFunc, w => match w with
    | .nilFunc => true
    | _ => false
  | .iface t a, w => match w with
    | .iface t' b => Nat.beq t t' && eqV a b
    | _ => false
  | .nilIface, w => match w with
    | .nilIface => true
    | _ => false
  | .agg a, w => match w with
    | .agg b => eqA a b
    | _ => false
  | .tuple a, w => match w with
    | .tuple b => eqA a b
    | _ => false
  | .complex _ _ _, _ => false
  | .chan _, _ => false
def eqA : Array Value → Array Value → Bool
  | ⟨l⟩, w => match w with
    | ⟨m⟩ => eqL l m
def eqL : List Value → List Value → Bool
  | [], w => match w with
    | [] => true
    | _ => false
  | v :: l, w => match w with
    | [] => false
    | x :: m => eqV v x && eqL l m
end

theorem beqB_spec' {a b : Bool} (h : beqB a b = true) : a = b := by
  cases a <;> cases b <;> first | rfl | (cases h)

mutual
theorem eqV_spec : ∀ (v w : Value), eqV v w = true → v = w
  | .bool a, w, h => by
    unfold eqV at h
    split at h
    · rw [beqB_spec' h]
    · cases h
  | .int k a, w, h => by
    unfold eqV at h
    split at h
    · simp only [Bool.and_eq_true, decide_eq_true_eq] at h; rw [h.1, eqInt_spec h.2]
    · cases h
  | .float k a, w, h => by
    unfold eqV at h
    split at h
    · simp only [Bool.and_eq_true, decide_eq_true_eq, Nat.beq_eq] at h; rw [h.1, h.2]
    · cases h
  | .string ⟨⟨s⟩⟩, w, h => by
    unfold eqV at h
    split at h
    · rw [eqBytes_spec h]
    · cases h
  | .pointer a, w, h => by
    unfold eqV at h
    split at h
    · rw [eqAddr_spec h]
    · cases h
  | .slice a n c, w, h => by
    unfold eqV at h
    split at h
    · simp only [Bool.and_eq_true, Nat.beq_eq] at h; rw [eqAddr_spec h.1.1, h.1.2, h.2]
    · cases h
  | .map a, w, h => by
    unfold eqV at h
    split at h
    · rw [eqSpot_spec h]
    · cases h
  | .func f a c, w, h => by
    unfold eqV at h
    split at h
    · simp only [Bool.and_eq_true] at h; rw [eqFn_spec h.1.1, eqA_spec _ _ h.1.2, eqA_spec _ _ h.2]
    · cases h
  | .nilFunc, w, h => by
    unfold eqV at h
    split at h
    · rfl
    · cases h
  | .iface t a, w, h => by
    unfold eqV at h
    split at h
    · simp only [Bool.and_eq_true, Nat.beq_eq] at h; rw [h.1, eqV_spec _ _ h.2]
    · cases h
  | .nilIface, w, h => by
    unfold eqV at h
    split at h
    · rfl
    · cases h
  | .agg a, w, h => by
    unfold eqV at h
    split at h
    · rw [eqA_spec _ _ h]
    · cases h
  | .tuple a, w, h => by
    unfold eqV at h
    split at h
    · rw [eqA_spec _ _ h]
    · cases h
  | .complex _ _ _, w, h => by unfold eqV at h; cases h
  | .chan _, w, h => by unfold eqV at h; cases h
theorem eqA_spec : ∀ (v w : Array Value), eqA v w = true → v = w
  | ⟨l⟩, ⟨m⟩, h => by
    unfold eqA at h
    rw [eqL_spec l m h]
theorem eqL_spec : ∀ (v w : List Value), eqL v w = true → v = w
  | [], w, h => by
    unfold eqL at h
    split at h
    · rfl
    · cases h
  | v :: l, w, h => by
    unfold eqL at h
    split at h
    · cases h
    · simp only [Bool.and_eq_true] at h
      rw [eqV_spec _ _ h.1, eqL_spec _ _ h.2]
end

def eqCs : List (Nat × Bool) → List (Nat × Bool) → Bool
  | [], [] => true
  | (i, a) :: l, (j, b) :: m => Nat.beq i j && beqB a b && eqCs l m
  | _, _ => false

theorem eqCs_spec : ∀ {l m : List (Nat × Bool)}, eqCs l m = true → l = m
  | [], [], _ => rfl
  | [], _ :: _, h => by simp [eqCs] at h
  | _ :: _, [], h => by simp [eqCs] at h
  | (i, a) :: l, (j, b) :: m, h => by
    simp only [eqCs, Bool.and_eq_true, Nat.beq_eq] at h
    rw [h.1.1, beqB_spec' h.1.2, eqCs_spec h.2]

def eqT : TV → TV → Bool
  | .v a, t => match t with
    | .v b => eqV a b
    | _ => false
  | .sp l a, t => match t with
    | .sp m b => eqCs l m && eqV a b
    | _ => false
  | _, _ => false

theorem eqT_spec {a b : TV} (h : eqT a b = true) : a = b := by
  unfold eqT at h
  split at h
  · split at h
    · rw [eqV_spec _ _ h]
    · cases h
  · split at h
    · simp only [Bool.and_eq_true] at h
      rw [eqCs_spec h.1, eqV_spec _ _ h.2]
    · cases h
  · cases h

/-! Operations that read no memory: wherever they come. -/

theorem evOp_blind {P : Program} {auto : Bool} {ev : Operand → Option Value} {o : Oper} (hb : blindOp o.op = true) (H H' : Heap) (n n' : Nat) (ds : List Bool) {r : R} (h : evOp P auto ev o H n ds = some r) :
    ∃ h', evOp P auto ev o H' n' ds = some ⟨r.v, h', r.obs, r.ds⟩ := by
  have mk : ∀ {x : Option Value}, mkR H ds x = some r → ∃ h', mkR H' ds x = some ⟨r.v, h', r.obs, r.ds⟩ := fun {x} hx => by
    cases x with
    | none => cases hx
    | some v => cases hx; exact ⟨H', rfl⟩
  have mk2 : ∀ {x : Option (Value × List Prop)}, mkR2 H ds x = some r → ∃ h', mkR2 H' ds x = some ⟨r.v, h', r.obs, r.ds⟩ := fun {x} hx => by
    cases x with
    | none => cases hx
    | some v => cases hx; exact ⟨H', rfl⟩
  unfold evOp at h ⊢
  cases ho : o.op with
  | move x => rw [ho] at h; exact mk h
  | assign x => rw [ho] at h; exact mk h
  | build t ps =>
    rw [ho] at h
    dsimp only at h ⊢
    cases hp : evParts ev ps.toList with
    | none => rw [hp] at h; cases h
    | some l => rw [hp] at h; exact mk h
  | binOp op t x y k =>
    rw [ho] at h
    dsimp only at h ⊢
    cases h1 : ev x with
    | none => rw [h1] at h; cases h
    | some a =>
      cases h2 : ev y with
      | none => rw [h1, h2] at h; cases h
      | some b =>
        rw [h1, h2] at h
        have hn : nilC y = false := by rw [ho] at hb; simpa [blindOp] using hb
        dsimp only at h ⊢
        rw [hn] at h ⊢
        dsimp only at h ⊢
        cases h3 : evSame P op t a b with
        | none => rw [h3] at h; exact mk2 h
        | some v => rw [h3] at h; exact mk h
  | unOp op t x =>
    rw [ho] at h
    dsimp only at h ⊢
    cases h1 : ev x with
    | none => rw [h1] at h; cases h
    | some a =>
      rw [h1] at h
      dsimp only at h ⊢
      cases h2 : pureV a with
      | false => rw [h2] at h; cases h
      | true => rw [h2] at h; exact mk h
  | makeInterface t x =>
    rw [ho] at h
    dsimp only at h ⊢
    split at h
    · cases h; exact ⟨H', rfl⟩
    · cases h
  | makeFunc f a b =>
    rw [ho] at h
    dsimp only at h ⊢
    split at h
    · cases h; exact ⟨H', rfl⟩
    · cases h
  | field t x f =>
    rw [ho] at h
    dsimp only at h ⊢
    cases h1 : ev x with
    | none => rw [h1] at h; cases h
    | some a => rw [h1] at h; exact mk h
  | index t x ix =>
    rw [ho] at h
    dsimp only at h ⊢
    cases h1 : ev x with
    | none => rw [h1] at h; cases h
    | some a =>
      cases h2 : ev ix with
      | none => rw [h1, h2] at h; cases h
      | some b => rw [h1, h2] at h; exact mk2 h
  | extract x i =>
    rw [ho] at h
    dsimp only at h ⊢
    cases h1 : ev x with
    | none => rw [h1] at h; cases h
    | some a => rw [h1] at h; exact mk h
  | pick c x y => rw [ho] at h; cases h
  | _ => rw [ho] at hb; cases hb

theorem blind_still {o : Op} (h : blindOp o = true) : (∃ c x y, o = .pick c x y) ∨ stillOp o = true := by
  cases o <;> first | (cases h; done) | (exact .inr rfl) | (exact .inl ⟨_, _, _, rfl⟩)

theorem evBody_blind {X : Cx} {o : Oper} {conds : List (Nat × Bool)} {tm : List TV} {H : Heap} {n : Nat} {ds : List Bool} {r : CR} (hb : blindOp o.op = true) (h : evBody X true o conds tm H n ds = some r) (H' : Heap) (n' : Nat) :
    evBody X true o conds tm H' n' ds = some ⟨r.v, H', n', r.obs, ds⟩ := by
  unfold evBody at h ⊢
  cases hg : globsOk X.P o with
  | false => rw [hg] at h; cases h
  | true =>
  rw [hg] at h
  dsimp only at h ⊢
  cases hs : s2b X.P X.auto (evo tm conds) o.op with
  | some e => rw [hs] at h; cases h
  | none =>
  rw [hs] at h
  dsimp only at h ⊢
  rcases blind_still hb with ⟨c, x, y, ho⟩ | hst
  · rw [ho] at h ⊢
    dsimp only at h ⊢
    cases h1 : (noGlob x && noGlob y) with
    | false => rw [h1] at h; cases h
    | true =>
      rw [h1] at h
      dsimp only at h ⊢
      cases h2 : evPick X.auto tm conds c x y with
      | none => rw [h2] at h; cases h
      | some v => rw [h2] at h; cases h; rfl
  · have hc : ∀ c, o.op ≠ .call c := fun c e => by rw [e] at hb; cases hb
    have hpk : ∀ c x y, o.op ≠ .pick c x y := fun c x y e => by rw [e] at hst; cases hst
    split at h
    · rename_i e; exact absurd e (hpk _ _ _)
    · rename_i e; exact absurd e (hc _)
    cases h1 : evOp X.P X.auto (evo tm conds) o H n ds with
    | none => rw [h1] at h; cases h
    | some r0 =>
      rw [h1] at h
      obtain ⟨h', e⟩ := evOp_blind hb H H' n n' ds h1
      rw [e]
      dsimp only at h ⊢
      rw [hst] at h ⊢
      cases h
      rfl

theorem evEff_blind {X : Cx} {os : List Oper} {o : Oper} {tm tm' : List TV} {H : Heap} {n : Nat} {ds : List Bool} {kv kv' : KV} {tv : TV} {r : CR} (hb : blindOp o.op = true) (h : evEff X true os o tm H n ds kv = some (tm', kv', tv, r)) (H' : Heap) (n' : Nat) :
    evEff X true os o tm H' n' ds kv = some (tm', kv', tv, ⟨r.v, H', n', r.obs, ds⟩) := by
  rw [evEff_eq] at h ⊢
  split at h
  · cases h
  · cases h; rfl
  · split at h
    · cases h
    · rename_i r1 ha
      cases h
      rcases evAnd_some ha with ⟨r0, hbd, e⟩ | ⟨hq, _⟩
      · have := evBody_blind hb (by simpa using hbd) H' n'
        subst e
        unfold evAnd
        rw [show (true || hasC _) = true from rfl, this]
      · cases hq

/-- The guard comes to the same in whatever memory. -/
theorem evEff_guard {X : Cx} {q q' : Bool} {os : List Oper} {o : Oper} {tm t1 t2 : List TV} {H H' : Heap} {n n' : Nat} {ds ds' : List Bool} {kv k1 k2 : KV} {v1 v2 : TV} {r1 r2 : CR} (h : evEff X q os o tm H n ds kv = some (t1, k1, v1, r1)) (h' : evEff X q' os o tm H' n' ds' kv = some (t2, k2, v2, r2)) : t1 = t2 ∧ k1 = k2 := by
  rw [evEff_eq] at h h'
  cases hg : evGuard X.auto os o tm kv with
  | none => rw [hg] at h; cases h
  | some p =>
    obtain ⟨b, t, k, c⟩ := p
    rw [hg] at h h'
    cases b with
    | true => cases h; cases h'; exact ⟨rfl, rfl⟩
    | false =>
      dsimp only at h h'
      split at h
      · cases h
      · cases h
        split at h'
        · cases h'
        · cases h'; exact ⟨rfl, rfl⟩

/-! The first i operations, in the text's order. -/

/-- Those that leave memory alone. -/
def flO (o : Oper) : Bool := match o.op with
  | .pick _ _ _ => true
  | .call c => match c.callee with
    | .builtin b => match isApp b with
      | true => false
      | false => match isEff b with
        | true => false
        | false => true
    | _ => false
  | p => stillOp p

def evF (X : Cx) (os : List Oper) (s0 : St) : Nat → Option (St × KV)
  | 0 => some (s0, [])
  | i + 1 => match evF X os s0 i with
    | none => none
    | some (s, kv) => match nthF os i with
      | none => none
      | some o => evOper X (flO o) os o s kv

section
variable {X : Cx} {os : List Oper} {s0 : St}

theorem evF_succ {i : Nat} {s' : St} {kv' : KV} (h : evF X os s0 (i + 1) = some (s', kv')) : ∃ s kv o, evF X os s0 i = some (s, kv) ∧ os[i]? = some o ∧ evOper X (flO o) os o s kv = some (s', kv') := by
  simp only [evF, nthF_eq] at h
  split at h
  · cases h
  · rename_i s kv hs
    split at h
    · cases h
    · rename_i o ho
      exact ⟨s, kv, o, hs, ho, h⟩

theorem evF_next {i : Nat} {s : St} {kv : KV} {o : Oper} (h : evF X os s0 i = some (s, kv)) (ho : os[i]? = some o) : evF X os s0 (i + 1) = evOper X (flO o) os o s kv := by
  simp only [evF, nthF_eq, h, ho]

theorem evF_obs : ∀ {j i : Nat} {si sj : St} {ki kj : KV}, i ≤ j → evF X os s0 i = some (si, ki) → evF X os s0 j = some (sj, kj) → allP sj.obs → allP si.obs
  | 0, i, si, sj, ki, kj, hij, h1, h2, hl => by
    obtain rfl : i = 0 := by omega
    rw [h1] at h2; cases h2; exact hl
  | j + 1, i, si, sj, ki, kj, hij, h1, h2, hl => by
    by_cases e : i = j + 1
    · subst e; rw [h1] at h2; cases h2; exact hl
    · obtain ⟨s, kv, o, hs, _, ho⟩ := evF_succ h2
      exact evF_obs (by omega) h1 hs (evOper_obs ho hl)

theorem evF_some : ∀ {j i : Nat} {r : St × KV}, i ≤ j → evF X os s0 j = some r → ∃ q, evF X os s0 i = some q
  | 0, i, r, hij, h => by
    obtain rfl : i = 0 := by omega
    exact ⟨r, h⟩
  | j + 1, i, r, hij, h => by
    by_cases e : i = j + 1
    · subst e; exact ⟨r, h⟩
    · obtain ⟨s', kv'⟩ := r
      obtain ⟨s, kv, o, hs, _, _⟩ := evF_succ h
      exact evF_some (by omega) hs

theorem evF_keys : ∀ {i : Nat} {s : St} {kv : KV}, evF X os s0 i = some (s, kv) → (∃ β, KVok kv β) ∧ s.tmps.length = s0.tmps.length
  | 0, s, kv, h => by simp only [evF] at h; cases h; exact ⟨⟨fun _ => false, fun p hp => by cases hp⟩, rfl⟩
  | i + 1, s, kv, h => by
    obtain ⟨s1, k1, o, h1, _, h2⟩ := evF_succ h
    obtain ⟨e1, e2⟩ := evF_keys h1
    rw [evOper_eq] at h2
    split at h2
    · cases h2
    · rename_i he
      cases h2
      obtain ⟨g1, _, g3⟩ := evEff_ex he e1
      exact ⟨g1, by rw [setT_length]; omega⟩

theorem evF_sub {β : Nat → Bool} : ∀ {j i : Nat} {si sj : St} {ki kj : KV}, i ≤ j → evF X os s0 i = some (si, ki) → evF X os s0 j = some (sj, kj) → KVok kj β → KVok ki β
  | 0, i, si, sj, ki, kj, hij, h1, h2, hk => by
    obtain rfl : i = 0 := by omega
    rw [h1] at h2; cases h2; exact hk
  | j + 1, i, si, sj, ki, kj, hij, h1, h2, hk => by
    by_cases e : i = j + 1
    · subst e; rw [h1] at h2; cases h2; exact hk
    · obtain ⟨s, kv, o, hs, _, ho⟩ := evF_succ h2
      rw [evOper_eq] at ho
      split at ho
      · cases ho
      · rename_i he
        cases ho
        exact evF_sub (by omega) h1 hs ((evEff_ex he (evF_keys hs).1).2.1 β hk)

theorem evF_slot {ρ : Num} {β : Nat → Bool} {t : Nat} {r : Value} : ∀ {j i : Nat} {si sj : St} {ki kj : KV}, i ≤ j → evF X os s0 i = some (si, ki) → evF X os s0 j = some (sj, kj) → KVok kj β →
    (∀ k o, i ≤ k → k < j → os[k]? = some o → o.dst ≠ some t) → (TRel ρ β (getT si.tmps t) r ↔ TRel ρ β (getT sj.tmps t) r)
  | 0, i, si, sj, ki, kj, hij, h1, h2, _, _ => by
    obtain rfl : i = 0 := by omega
    rw [h1] at h2; cases h2; exact Iff.rfl
  | j + 1, i, si, sj, ki, kj, hij, h1, h2, hk, hw => by
    by_cases e : i = j + 1
    · subst e; rw [h1] at h2; cases h2; exact Iff.rfl
    · obtain ⟨s, kv, o, hs, hoj, ho⟩ := evF_succ h2
      have hkv : KVok kv β := evF_sub (by omega) hs h2 hk
      exact (evF_slot (by omega) h1 hs hkv (fun k o' hk1 hk2 => hw k o' hk1 (by omega))).trans (evOper_slot ho hk (hw j o (by omega) (by omega) hoj) r)

theorem evF_frame : ∀ {i : Nat} {s : St} {kv : KV}, evF X os s0 i = some (s, kv) → s.rd = s0.rd ∧ s.mks = s0.mks ∧ s.bs = s0.bs
  | 0, s, kv, h => by simp only [evF] at h; cases h; exact ⟨rfl, rfl, rfl⟩
  | i + 1, s, kv, h => by
    obtain ⟨s1, k1, o, h1, _, h2⟩ := evF_succ h
    obtain ⟨e1, e2, e3⟩ := evF_frame h1
    rw [evOper_eq] at h2
    split at h2
    · cases h2
    · cases h2; exact ⟨e1, e2, e3⟩

/-- Between two places no operation that may turn memory. -/
theorem evF_quiet : ∀ {j i : Nat} {si sj : St} {ki kj : KV}, i ≤ j → evF X os s0 i = some (si, ki) → evF X os s0 j = some (sj, kj) → (∀ k o, i ≤ k → k < j → os[k]? = some o → flO o = true) → sj.heap = si.heap ∧ sj.nid = si.nid
  | 0, i, si, sj, ki, kj, hij, h1, h2, _ => by
    obtain rfl : i = 0 := by omega
    rw [h1] at h2; cases h2; exact ⟨rfl, rfl⟩
  | j + 1, i, si, sj, ki, kj, hij, h1, h2, hw => by
    by_cases e : i = j + 1
    · subst e; rw [h1] at h2; cases h2; exact ⟨rfl, rfl⟩
    · obtain ⟨s, kv, o, hs, hoj, ho⟩ := evF_succ h2
      rw [hw j o (by omega) (by omega) hoj] at ho
      obtain ⟨q1, q2, _⟩ := evOper_quiet ho
      obtain ⟨g1, g2⟩ := evF_quiet (by omega) h1 hs (fun k o' hk1 hk2 => hw k o' hk1 (by omega))
      exact ⟨q1.trans g1, q2.trans g2⟩
end

/-! The states, one behind the other. -/

def trF (X : Cx) (os : List Oper) : List Oper → St → KV → Option (List (St × KV))
  | [], s, kv => some [(s, kv)]
  | o :: r, s, kv => match evOper X (flO o) os o s kv with
    | none => none
    | some (s', kv') => match trF X os r s' kv' with
      | none => none
      | some l => some ((s, kv) :: l)

theorem trF_spec {X : Cx} {os : List Oper} {s0 : St} : ∀ {r : List Oper} {i : Nat} {s : St} {kv : KV} {l : List (St × KV)}, trF X os r s kv = some l → evF X os s0 i = some (s, kv) → r = os.drop i → l.length = r.length + 1 ∧ ∀ k p, l[k]? = some p → evF X os s0 (i + k) = some p
  | [], i, s, kv, l, h, hs, _ => by
    simp only [trF] at h
    cases h
    refine ⟨rfl, fun k p hk => ?_⟩
    cases k with
    | zero => simp only [List.getElem?_cons_zero, Option.some.injEq] at hk; subst hk; exact hs
    | succ k => simp at hk
  | o :: r, i, s, kv, l, h, hs, hr => by
    simp only [trF] at h
    have ho : os[i]? = some o := by
      have := congrArg (fun q => q[0]?) hr
      simp only [List.getElem?_cons_zero, List.getElem?_drop, Nat.add_zero] at this
      exact this.symm
    have hr' : r = os.drop (i + 1) := by
      have := congrArg List.tail hr
      simpa using this
    split at h
    · cases h
    · rename_i s' kv' he
      split at h
      · cases h
      · rename_i l' hl'
        cases h
        obtain ⟨e1, e2⟩ := trF_spec hl' ((evF_next hs ho).trans he) hr'
        refine ⟨by simp [e1], fun k p hk => ?_⟩
        cases k with
        | zero => simp only [List.getElem?_cons_zero, Option.some.injEq] at hk; subst hk; exact hs
        | succ k =>
          simp only [List.getElem?_cons_succ] at hk
          rw [show i + (k + 1) = i + 1 + k by omega]
          exact e2 k p hk

/-- The states behind the operations that may turn memory. -/
def cutsF : Nat → List Oper → List (St × KV) → List (Nat × St)
  | _, [], _ => []
  | _, _ :: _, [] => []
  | i, o :: r, _ :: l => match flO o with
    | true => cutsF (i + 1) r l
    | false => match l with
      | [] => []
      | (s, _) :: _ => (i + 1, s) :: cutsF (i + 1) r l

theorem cutsF_spec : ∀ {r : List Oper} {i : Nat} {l : List (St × KV)}, l.length = r.length + 1 → ∀ k o p, r[k]? = some o → flO o = false → l[k + 1]? = some p → (i + k + 1, p.1) ∈ cutsF i r l
  | [], i, l, _, k, o, p, ho, _, _ => by simp at ho
  | x :: r, i, [], hl, k, o, p, ho, hf, hp => by simp at hl
  | x :: r, i, y :: l, hl, k, o, p, ho, hf, hp => by
    have hl' : l.length = r.length + 1 := by simpa using hl
    simp only [List.getElem?_cons_succ] at hp
    unfold cutsF
    cases k with
    | zero =>
      simp only [List.getElem?_cons_zero, Option.some.injEq] at ho
      subst ho
      rw [hf]
      cases l with
      | nil => simp at hp
      | cons z l =>
        simp only [List.getElem?_cons_zero, Option.some.injEq] at hp
        subst hp
        simp
    | succ k =>
      simp only [List.getElem?_cons_succ] at ho
      have := cutsF_spec (i := i + 1) hl' k o p ho hf hp
      rw [show i + (k + 1) + 1 = i + 1 + k + 1 by omega]
      split
      · exact this
      · cases l with
        | nil => simp at hp
        | cons z l => exact List.mem_cons_of_mem _ this

/-! Which of them stand in a chain, and what each waits for. -/

def subN : List (Nat × List Nat) → List Nat → Bool
  | [], _ => true
  | (i, _) :: r, l => memN i l && subN r l

theorem subN_spec : ∀ {a : List (Nat × List Nat)} {l : List Nat}, subN a l = true → ∀ p ∈ a, p.1 ∈ l
  | [], _, _, p, hp => by cases hp
  | (i, x) :: r, l, h, p, hp => by
    simp only [subN, Bool.and_eq_true, memN_iff] at h
    rcases List.mem_cons.1 hp with rfl | hp
    · exact h.1
    · exact subN_spec h.2 p hp

def spF (os : List Oper) : Nat → List Oper → List (Nat × List Nat) → Option (List (Nat × List Nat))
  | _, [], acc => some acc
  | i, o :: r, acc => match flO o with
    | true => spF os (i + 1) r acc
    | false => match subN acc (reach os o) with
      | false => none
      | true => spF os (i + 1) r ((i, reach os o) :: acc)

theorem spF_spec {os : List Oper} : ∀ {r : List Oper} {i : Nat} {acc z : List (Nat × List Nat)}, spF os i r acc = some z → r = os.drop i →
    (∀ p ∈ acc, p.1 < i ∧ ∃ o, os[p.1]? = some o ∧ flO o = false ∧ p.2 = reach os o) → (∀ j o, j < i → os[j]? = some o → flO o = false → (j, reach os o) ∈ acc) →
    (∀ j k oj ok, j < k → k < i → os[j]? = some oj → os[k]? = some ok → flO oj = false → flO ok = false → j ∈ reach os ok) →
    (∀ p ∈ z, ∃ o, os[p.1]? = some o ∧ flO o = false ∧ p.2 = reach os o) ∧ (∀ j o, os[j]? = some o → flO o = false → (j, reach os o) ∈ z) ∧
    (∀ j k oj ok, j < k → os[j]? = some oj → os[k]? = some ok → flO oj = false → flO ok = false → j ∈ reach os ok)
  | [], i, acc, z, h, hr, h1, h2, h3 => by
    simp only [spF] at h
    cases h
    have hi : os.length ≤ i := by
      have := congrArg List.length hr
      simp only [List.length_nil, List.length_drop] at this
      omega
    have lt : ∀ {j o}, os[j]? = some o → j < i := fun {j o} hj => by
      have := (List.getElem?_eq_some_iff.1 hj).1
      omega
    exact ⟨fun p hp => (h1 p hp).2, fun j o hj hf => h2 j o (lt hj) hj hf, fun j k oj ok hjk hj hk fj fk => h3 j k oj ok hjk (lt hk) hj hk fj fk⟩
  | o :: r, i, acc, z, h, hr, h1, h2, h3 => by
    have ho : os[i]? = some o := by
      have := congrArg (fun q => q[0]?) hr
      simp only [List.getElem?_cons_zero, List.getElem?_drop, Nat.add_zero] at this
      exact this.symm
    have hr' : r = os.drop (i + 1) := by
      have := congrArg List.tail hr
      simpa using this
    simp only [spF] at h
    split at h
    · rename_i hf
      refine spF_spec h hr' (fun p hp => ⟨by have := (h1 p hp).1; omega, (h1 p hp).2⟩) (fun j oj hj hoj fj => ?_) (fun j k oj ok hjk hk hoj hok fj fk => ?_)
      · by_cases e : j = i
        · subst e; rw [ho] at hoj; cases hoj; rw [hf] at fj; cases fj
        · exact h2 j oj (by omega) hoj fj
      · by_cases e : k = i
        · subst e; rw [ho] at hok; cases hok; rw [hf] at fk; cases fk
        · exact h3 j k oj ok hjk (by omega) hoj hok fj fk
    · rename_i hf
      split at h
      · cases h
      · rename_i hs
        refine spF_spec h hr' (fun p hp => ?_) (fun j oj hj hoj fj => ?_) (fun j k oj ok hjk hk hoj hok fj fk => ?_)
        · rcases List.mem_cons.1 hp with rfl | hp
          · exact ⟨by show i < i + 1; omega, o, ho, hf, rfl⟩
          · exact ⟨by have := (h1 p hp).1; omega, (h1 p hp).2⟩
        · by_cases e : j = i
          · subst e; rw [ho] at hoj; cases hoj; exact List.mem_cons_self
          · exact List.mem_cons_of_mem _ (h2 j oj (by omega) hoj fj)
        · by_cases e : k = i
          · subst e
            rw [ho] at hok
            cases hok
            exact subN_spec hs _ (h2 j oj hjk hoj fj)
          · exact h3 j k oj ok hjk (by omega) hoj hok fj fk

/-- Nothing that may turn memory stands from p on ahead of k. -/
def noneIn (p k : Nat) : List (Nat × List Nat) → Bool
  | [] => true
  | (d, _) :: r => (Nat.blt d p || Nat.ble k d) && noneIn p k r

theorem noneIn_spec {p k : Nat} : ∀ {l : List (Nat × List Nat)}, noneIn p k l = true → ∀ q ∈ l, q.1 < p ∨ k ≤ q.1
  | [], _, q, hq => by cases hq
  | (d, x) :: r, h, q, hq => by
    simp only [noneIn, Bool.and_eq_true, Bool.or_eq_true, Nat.blt_eq, Nat.ble_eq] at h
    rcases List.mem_cons.1 hq with rfl | hq
    · exact h.1
    · exact noneIn_spec h.2 q hq

/-- Something ahead of p waits for k. -/
def lateF (k p : Nat) : List (Nat × List Nat) → Bool
  | [] => false
  | (d, rd) :: r => (Nat.blt d p && memN k rd) || lateF k p r

theorem lateF_spec {k p : Nat} : ∀ {l : List (Nat × List Nat)}, lateF k p l = true → ∃ q ∈ l, q.1 < p ∧ k ∈ q.2
  | [], h => by simp [lateF] at h
  | (d, rd) :: r, h => by
    simp only [lateF, Bool.or_eq_true, Bool.and_eq_true, Nat.blt_eq, memN_iff] at h
    rcases h with h | h
    · exact ⟨_, List.mem_cons_self, h⟩
    · obtain ⟨q, hq, h'⟩ := lateF_spec h
      exact ⟨q, List.mem_cons_of_mem _ hq, h'⟩

/-- Something that k waits for stands from p on. -/
def earlyF (re : List Nat) (p : Nat) : List (Nat × List Nat) → Bool
  | [] => false
  | (d, _) :: r => (Nat.ble p d && memN d re) || earlyF re p r

theorem earlyF_spec {re : List Nat} {p : Nat} : ∀ {l : List (Nat × List Nat)}, earlyF re p l = true → ∃ q ∈ l, p ≤ q.1 ∧ q.1 ∈ re
  | [], h => by simp [earlyF] at h
  | (d, x) :: r, h => by
    simp only [earlyF, Bool.or_eq_true, Bool.and_eq_true, Nat.ble_eq, memN_iff] at h
    rcases h with h | h
    · exact ⟨_, List.mem_cons_self, h⟩
    · obtain ⟨q, hq, h'⟩ := earlyF_spec h
      exact ⟨q, List.mem_cons_of_mem _ hq, h'⟩

def needF (re : List Nat) (k : Nat) (sp : List (Nat × List Nat)) : List (Nat × St) → List (Nat × St)
  | [] => []
  | (p, s) :: r => match Nat.ble p k && noneIn p k sp with
    | true => needF re k sp r
    | false => match lateF k p sp with
      | true => needF re k sp r
      | false => match earlyF re p sp with
        | true => needF re k sp r
        | false => (p, s) :: needF re k sp r

theorem needF_spec {re : List Nat} {k : Nat} {sp : List (Nat × List Nat)} : ∀ {l : List (Nat × St)} {p : Nat} {s : St}, (p, s) ∈ l → (p ≤ k ∧ noneIn p k sp = true) ∨ lateF k p sp = true ∨ earlyF re p sp = true ∨ (p, s) ∈ needF re k sp l
  | [], p, s, h => by cases h
  | (p', s') :: r, p, s, h => by
    unfold needF
    rcases List.mem_cons.1 h with e | h
    · cases e
      split
      · rename_i c
        simp only [Bool.and_eq_true, Nat.ble_eq] at c
        exact .inl c
      · split
        · rename_i c; exact .inr (.inl c)
        · split
          · rename_i c; exact .inr (.inr (.inl c))
          · exact .inr (.inr (.inr List.mem_cons_self))
    · rcases needF_spec (re := re) (k := k) (sp := sp) h with h1 | h1 | h1 | h1
      · exact .inl h1
      · exact .inr (.inl h1)
      · exact .inr (.inr (.inl h1))
      · refine .inr (.inr (.inr ?_))
        split
        · exact h1
        · split
          · exact h1
          · split
            · exact h1
            · exact List.mem_cons_of_mem _ h1

def ckAt (X : Cx) (os : List Oper) (o : Oper) (tm : List TV) (ds : List Bool) (kv : KV) (tv : TV) : St → Option (List Prop)
  | ⟨_, hp, nid, _, _, _, _, _, _⟩ => match evEff X true os o tm hp nid ds kv with
    | none => none
    | some (_, _, tv', ⟨_, _, _, ob, _⟩) => match eqT tv' tv with
      | true => some ob
      | false => none

theorem ckAt_spec {X : Cx} {os : List Oper} {o : Oper} {tm : List TV} {ds : List Bool} {kv : KV} {tv : TV} {s : St} {ob : List Prop} (h : ckAt X os o tm ds kv tv s = some ob) : ∃ t k r, evEff X true os o tm s.heap s.nid ds kv = some (t, k, tv, r) ∧ r.obs = ob := by
  unfold ckAt at h
  dsimp only at h
  split at h
  · cases h
  · rename_i he
    split at h
    · rename_i hq
      cases h
      rw [eqT_spec hq] at he
      exact ⟨_, _, _, he, rfl⟩
    · cases h

def ckCuts (X : Cx) (os : List Oper) (o : Oper) (tm : List TV) (ds : List Bool) (kv : KV) (tv : TV) : List (Nat × St) → Option (List Prop)
  | [] => some []
  | (_, s) :: r => match ckAt X os o tm ds kv tv s with
    | none => none
    | some ob => match ckCuts X os o tm ds kv tv r with
      | none => none
      | some ob' => some (ob ++ ob')

theorem ckCuts_spec {X : Cx} {os : List Oper} {o : Oper} {tm : List TV} {ds : List Bool} {kv : KV} {tv : TV} : ∀ {l : List (Nat × St)} {ob : List Prop}, ckCuts X os o tm ds kv tv l = some ob → allP ob → ∀ p ∈ l, ∃ t k r, evEff X true os o tm p.2.heap p.2.nid ds kv = some (t, k, tv, r) ∧ allP r.obs
  | [], _, _, _, p, hp => by cases hp
  | (i, s) :: r, ob, h, hl, p, hp => by
    simp only [ckCuts] at h
    split at h
    · cases h
    · rename_i ob1 h1
      split at h
      · cases h
      · rename_i ob2 h2
        cases h
        rw [allP_append] at hl
        rcases List.mem_cons.1 hp with rfl | hp
        · obtain ⟨t, k, r', e1, e2⟩ := ckAt_spec h1
          exact ⟨t, k, r', e1, by rw [e2]; exact hl.1⟩
        · exact ckCuts_spec h2 hl.2 p hp

def ckOne (X : Cx) (os : List Oper) (cuts : List (Nat × St)) (sp : List (Nat × List Nat)) (k : Nat) (o : Oper) (kv : KV) : St → Option (List Prop)
  | ⟨tm, hp, nid, ds, _, _, _, _, _⟩ => match needF (reach os o) k sp cuts with
    | [] => some []
    | c :: cs => match evEff X true os o tm hp nid ds kv with
      | none => none
      | some (_, _, tv, _) => ckCuts X os o tm ds kv tv (c :: cs)

def ckAll (X : Cx) (os : List Oper) (cuts : List (Nat × St)) (sp : List (Nat × List Nat)) : Nat → List Oper → List (St × KV) → Option (List Prop)
  | _, [], _ => some []
  | _, _ :: _, [] => some []
  | k, o :: r, (s, kv) :: l => match flO o && !blindOp o.op with
    | false => ckAll X os cuts sp (k + 1) r l
    | true => match ckOne X os cuts sp k o kv s with
      | none => none
      | some ob => match ckAll X os cuts sp (k + 1) r l with
        | none => none
        | some ob' => some (ob ++ ob')

theorem ckAll_spec {X : Cx} {os : List Oper} {cuts : List (Nat × St)} {sp : List (Nat × List Nat)} : ∀ {r : List Oper} {k0 : Nat} {l : List (St × KV)} {ob : List Prop}, ckAll X os cuts sp k0 r l = some ob → allP ob → l.length = r.length + 1 →
    ∀ k o p, r[k]? = some o → l[k]? = some p → flO o = true → blindOp o.op = false → ∃ ob', ckOne X os cuts sp (k0 + k) o p.2 p.1 = some ob' ∧ allP ob'
  | [], _, _, _, _, _, _, k, o, p, ho, _, _, _ => by simp at ho
  | _ :: _, _, [], _, _, _, hl, k, o, p, ho, hp, _, _ => by simp at hl
  | x :: r, k0, (s, kv) :: l, ob, h, ha, hl, k, o, p, ho, hp, hf, hb => by
    have hl' : l.length = r.length + 1 := by simpa using hl
    simp only [ckAll] at h
    split at h
    · rename_i hc
      cases k with
      | zero =>
        simp only [List.getElem?_cons_zero, Option.some.injEq] at ho
        subst ho
        rw [hf, hb] at hc
        cases hc
      | succ k =>
        simp only [List.getElem?_cons_succ] at ho hp
        rw [show k0 + (k + 1) = k0 + 1 + k by omega]
        exact ckAll_spec h ha hl' k o p ho hp hf hb
    · split at h
      · cases h
      · rename_i ob1 h1
        split at h
        · cases h
        · rename_i ob2 h2
          cases h
          rw [allP_append] at ha
          cases k with
          | zero =>
            simp only [List.getElem?_cons_zero, Option.some.injEq] at ho hp
            subst ho hp
            exact ⟨ob1, h1, ha.1⟩
          | succ k =>
            simp only [List.getElem?_cons_succ] at ho hp
            rw [show k0 + (k + 1) = k0 + 1 + k by omega]
            exact ckAll_spec h2 ha.2 hl' k o p ho hp hf hb

def lastF : List (St × KV) → Option St
  | [] => none
  | [(s, _)] => some s
  | _ :: x :: r => lastF (x :: r)

theorem lastF_spec : ∀ {l : List (St × KV)} {s : St}, lastF l = some s → ∃ kv, l[l.length - 1]? = some (s, kv)
  | [], s, h => by cases h
  | [(s', kv)], s, h => by cases h; exact ⟨kv, rfl⟩
  | x :: y :: r, s, h => by
    obtain ⟨kv, e⟩ := lastF_spec (l := y :: r) h
    exact ⟨kv, by simpa using e⟩

def St.more : St → List Prop → St
  | ⟨tm, hp, nid, ds, obs, lp, rd, mq, bs⟩, ob => ⟨tm, hp, nid, ds, ob ++ obs, lp, rd, mq, bs⟩

/-- Is it such a region; what stands in the chain. -/
def spineOf (os : List Oper) : Option (List (Nat × List Nat)) := match drawOk os os.length with
  | false => none
  | true => spF os 0 os []

def evSpine (X : Cx) (os : List Oper) (sp : List (Nat × List Nat)) (s : St) : Option St :=
  match trF X os os s [] with
  | none => none
  | some l => match ckAll X os ((0, s) :: cutsF 0 os l) sp 0 os l with
    | none => none
    | some ob => match lastF l with
      | none => none
      | some sn => some (sn.more ob)

/-- What is known where it comes to an answer. -/
structure Spine (X : Cx) (os : List Oper) (s0 sn : St) (kn : KV) : Prop where
  draws : Draws os os.length
  last : evF X os s0 os.length = some (sn, kn)
  obs : allP sn.obs
  chain : ∀ j k oj ok, j < k → os[j]? = some oj → os[k]? = some ok → flO oj = false → flO ok = false → j ∈ reach os ok
  float : ∀ k o s kv t1 k1 tv r p sp kp, os[k]? = some o → flO o = true → evF X os s0 k = some (s, kv) → evEff X true os o s.tmps s.heap s.nid s.ds kv = some (t1, k1, tv, r) → allP r.obs →
    evF X os s0 p = some (sp, kp) → p ≤ os.length → (p = 0 ∨ ∃ q op, p = q + 1 ∧ os[q]? = some op ∧ flO op = false) →
    (∀ d od, os[d]? = some od → flO od = false → d < p → k ∉ reach os od) → (∀ d od, os[d]? = some od → flO od = false → p ≤ d → d ∉ reach os o) →
    ∃ t2 k2 r2, evEff X true os o s.tmps sp.heap sp.nid s.ds kv = some (t2, k2, tv, r2) ∧ allP r2.obs

theorem evSpine_some {X : Cx} {os : List Oper} {sp : List (Nat × List Nat)} {s s' : St} (hsp : spineOf os = some sp) (h : evSpine X os sp s = some s') (hl : allP s'.obs) : ∃ sn kn ob, s' = sn.more ob ∧ Spine X os s sn kn := by
  unfold spineOf at hsp
  split at hsp
  · cases hsp
  rename_i hd
  obtain ⟨z1, z2, z3⟩ := spF_spec hsp rfl (fun p hp => by cases hp) (fun j o hj => by omega) (fun j k oj ok hjk hk => by omega)
  unfold evSpine at h
  split at h
  · cases h
  rename_i l htr
  split at h
  · cases h
  rename_i ob hck
  split at h
  · cases h
  rename_i sn hlast
  cases h
  obtain ⟨kn, hln⟩ := lastF_spec hlast
  obtain ⟨e1, e2⟩ := trF_spec (s0 := s) (i := 0) htr rfl rfl
  have hob : allP ob ∧ allP sn.obs := by
    have : (sn.more ob).obs = ob ++ sn.obs := by cases sn; rfl
    rw [this, allP_append] at hl
    exact hl
  have hlast' : evF X os s os.length = some (sn, kn) := by
    have := e2 _ _ hln
    rw [show 0 + (l.length - 1) = os.length by omega] at this
    exact this
  refine ⟨sn, kn, ob, rfl, drawOk_spec hd, hlast', hob.2, z3, fun k o sk kv t1 k1 tv r p sq kp ho hf hs he hr hp hpn hcut hlate hearly => ?_⟩
  have hkn : k < os.length := (List.getElem?_eq_some_iff.1 ho).1
  cases hb : blindOp o.op with
  | true => exact ⟨_, _, _, evEff_blind hb he _ _, hr⟩
  | false =>
    have atl : ∀ i q, evF X os s i = some q → i ≤ os.length → l[i]? = some q := fun i q hq hi => by
      have hil : i < l.length := by omega
      have : l[i]? = some l[i] := by simp [hil]
      have h2 := e2 i _ this
      rw [Nat.zero_add, hq] at h2
      rw [this, h2]
    obtain ⟨ob', hone, hob'⟩ := ckAll_spec hck hob.1 e1 k o _ ho (atl k _ hs (by omega)) hf hb
    have hin : (p, sq) ∈ (0, s) :: cutsF 0 os l := by
      rcases hcut with rfl | ⟨q, oq, rfl, hoq, hfq⟩
      · have : evF X os s 0 = some (s, []) := rfl
        rw [this] at hp
        cases hp
        exact List.mem_cons_self
      · refine List.mem_cons_of_mem _ ?_
        have := cutsF_spec (i := 0) e1 q oq _ hoq hfq (atl (q + 1) _ hp hpn)
        simpa using this
    rcases needF_spec (re := reach os o) (k := k) (sp := sp) hin with hc | hc | hc | hc
    · -- the same memory
      obtain ⟨hpk, hno⟩ := hc
      have hq := evF_quiet hpk hp hs (fun j oj hj1 hj2 hoj => by
        cases hfj : flO oj with
        | true => rfl
        | false =>
          have := noneIn_spec hno _ (z2 j oj hoj hfj)
          simp only at this
          omega)
      rw [← hq.1, ← hq.2]
      exact ⟨_, _, _, he, hr⟩
    · obtain ⟨q, hq, h1, h2⟩ := lateF_spec hc
      obtain ⟨oq, hoq, hfq, e⟩ := z1 q hq
      rw [e] at h2
      exact absurd h2 (hlate q.1 oq hoq hfq h1)
    · obtain ⟨q, hq, h1, h2⟩ := earlyF_spec hc
      obtain ⟨oq, hoq, hfq, e⟩ := z1 q hq
      exact absurd h2 (hearly q.1 oq hoq hfq h1)
    · simp only [Nat.zero_add] at hone
      unfold ckOne at hone
      dsimp only at hone
      split at hone
      · rename_i hn
        rw [hn] at hc
        cases hc
      · rename_i hn
        rw [hn] at hc
        rw [he] at hone
        dsimp only at hone
        obtain ⟨t2, k2, r2, g1, g2⟩ := ckCuts_spec hone hob' _ hc
        exact ⟨t2, k2, r2, g1, g2⟩

/-- What has been done: the frame and the world. -/
structure HalfS (X : Cx) (J : Inv X.P) (B : Nat) (M : Nat → Prop) (w0 : Bas) (os : List Oper) (s0 : St) (a0 : Act) (ρ0 : Num) (sn : St) (kn : KV) (listed : Array Bool) (a : Act) (w : World) : Prop where
  size : listed.size = os.length
  closed : ∀ j o, os[j]? = some o → Lst listed j → ∀ e ∈ predsOf o, Lst listed e
  asize : a.tmps.size = s0.tmps.length
  defers : a.defers = w0.dfs
  base : B ≤ w.heap.size
  inv : J.I w
  keeps : Keeps B M w0.w w
  old : ∀ t, (∀ k o, Lst listed k → os[k]? = some o → o.dst ≠ some t) → a.tmps.getD t undef = a0.tmps.getD t undef
  cut : ∃ p sp kp ρ, evF X os s0 p = some (sp, kp) ∧ p ≤ os.length ∧ (p = 0 ∨ ∃ q op, p = q + 1 ∧ os[q]? = some op ∧ flO op = false) ∧ (∀ j o, os[j]? = some o → flO o = false → (Lst listed j ↔ j < p)) ∧ Agree s0.nid ρ0 ρ ∧ s0.nid ≤ sp.nid ∧
    ∀ ρ', Agree sp.nid ρ ρ' → Sim X.P B M ρ' sp.heap w ∧ ∀ k o d, Lst listed k → os[k]? = some o → o.dst = some d → ∀ β, KVok kn β → TRel ρ' β (getT sn.tmps d) (a.tmps.getD d undef)

theorem closed_reach {os : List Oper} {listed : Array Bool} (hcl : ∀ j o, os[j]? = some o → Lst listed j → ∀ e ∈ predsOf o, Lst listed e) {o : Oper} (hpre : ∀ e ∈ predsOf o, Lst listed e) : ∀ e ∈ reach os o, Lst listed e := by
  refine closeP_in (L := fun j => Lst listed j) (fun p hp e he => ?_) 400 (predsOf o) [] hpre (fun p hp => by cases hp)
  unfold predsAt at he
  split at he
  · rename_i op hop; exact hcl p op hop hp e he
  · cases he

theorem spine_step {X : Cx} {J : Inv X.P} (hX : CxOk X J) {B : Nat} {M : Nat → Prop} (hp : Par X.P B M) {w0 : Bas} {os : List Oper} {s0 sn : St} {kn : KV} (hd : Spine X os s0 sn kn) {a0 : Act} {ρ0 : Num}
    (h0 : ∀ ρ', Agree s0.nid ρ0 ρ' → ∀ β t, TRel ρ' β (getT s0.tmps t) (a0.tmps.getD t undef)) {listed : Array Bool} {a : Act} {w : World}
    (h : HalfS X J B M w0 os s0 a0 ρ0 sn kn listed a w) {i : Nat} (hr : i ∈ Region.ready .any ⟨os⟩ listed) {rb : Option Nat} {K : Act → World → Prop} {Q : Exit → Act → World → Prop}
    (hK : ∀ a' w', HalfS X J B M w0 os s0 a0 ρ0 sn kn (listed.setIfInBounds i true) a' w' → K a' w') : wpOpIn (Fl rb) 0 X.P ⟨os⟩ Q i K a w := by
  obtain ⟨⟨hi, hnl⟩, o, ho, hpre⟩ := ready_iff.1 hr
  have hin : i < os.length := (List.getElem?_eq_some_iff.1 ho).1
  have hisz : i < listed.size := hi
  obtain ⟨p, sp, kp, ρ, hsp, hpn, hcut, hL, hag, hnid, hρ⟩ := h.cut
  obtain ⟨⟨s1, k1⟩, hq1⟩ := evF_some (i := i + 1) (by omega) hd.last
  obtain ⟨si, ki, o', hsi, ho', hop⟩ := evF_succ hq1
  rw [ho] at ho'
  cases ho'
  have hobs := evF_obs (by omega) hq1 hd.last hd.obs
  obtain ⟨_, elen⟩ := evF_keys hsi
  rw [evOper_eq] at hop
  split at hop
  · cases hop
  rename_i tmps' kv1 tv r he
  cases hop
  simp only [allP_append] at hobs
  have hsub : ∀ β, KVok kn β → KVok k1 β := fun β hβ => evF_sub (by omega) hq1 hd.last hβ
  have hsubi : ∀ β, KVok kn β → KVok ki β := fun β hβ => evF_sub (by omega) hsi hd.last hβ
  have hre := closed_reach h.closed hpre
  have wr : ∀ k ok t, t ∈ looks os o → os[k]? = some ok → ok.dst = some t → k = i ∨ k ∈ predsOf o ∨ i ∈ predsOf ok := fun k ok t ht hok hdk =>
    hd.draws.slot i o hin ho t ht k ok (List.getElem?_eq_some_iff.1 hok).1 hok hdk
  -- what op i looks at is as the text's order has it
  have hT : ∀ ρ', Agree sp.nid ρ ρ' → ∀ β, KVok kn β → ∀ t ∈ looks os o, TRel ρ' β (getT si.tmps t) (a.tmps.getD t undef) := by
    intro ρ' ha β hβ t ht
    by_cases hw : ∃ k ok, Lst listed k ∧ os[k]? = some ok ∧ ok.dst = some t
    · obtain ⟨k, ok, hlk, hok, hdk⟩ := hw
      have hk : k < os.length := (List.getElem?_eq_some_iff.1 hok).1
      have hki : k < i := by
        rcases wr k ok t ht hok hdk with e | e | e
        · subst e; exact absurd hlk hnl
        · exact hd.draws.fwd i o ho k e
        · exact absurd (h.closed k ok hok hlk i e) hnl
      have := (hρ ρ' ha).2 k ok t hlk hok hdk β hβ
      refine (evF_slot (by omega : i ≤ os.length) hsi hd.last hβ (fun k2 o2 hk1 hk2 ho2 hd2 => ?_)).2 this
      have := hd.draws.dup k k2 ok o2 t hk hk2 hok ho2 hdk hd2
      omega
    · have hno : ∀ k ok, Lst listed k → os[k]? = some ok → ok.dst ≠ some t := fun k ok hlk hok e => hw ⟨k, ok, hlk, hok, e⟩
      rw [h.old t hno]
      refine (evF_slot (Nat.zero_le i) rfl hsi (hsubi β hβ) (fun k ok _ hk hok hdk => ?_)).1 (h0 ρ' (fun j hj => (ha j (by omega)).trans (hag j hj)) β t)
      rcases wr k ok t ht hok hdk with e | e | e
      · omega
      · exact hno k ok (hpre k e) hok hdk
      · have := hd.draws.fwd k ok hok i e
        omega
  have mkOld : ∀ v : Value, ∀ t, (∀ k ok, Lst (listed.setIfInBounds i true) k → os[k]? = some ok → ok.dst ≠ some t) → (a.put o.dst v).tmps.getD t undef = a0.tmps.getD t undef := fun v t hno => by
    rw [put_getD, if_neg (fun hh => hno i o ((lst_set hisz).2 (.inl rfl)) ho hh.1)]
    exact h.old t (fun k ok hlk hok => hno k ok ((lst_set hisz).2 (.inr hlk)) hok)
  have mkClosed : ∀ j oj, os[j]? = some oj → Lst (listed.setIfInBounds i true) j → ∀ e ∈ predsOf oj, Lst (listed.setIfInBounds i true) e := fun j oj hoj hlj e he' => by
    rw [lst_set hisz] at hlj ⊢
    rcases hlj with rfl | hlj
    · rw [ho] at hoj; cases hoj
      exact .inr (hpre e he')
    · exact .inr (h.closed j oj hoj hlj e he')
  have mkNew : ∀ (v : Value) (ρ' : Num), (∀ β, KVok kn β → TRel ρ' β tv v) → (∀ k ok d, Lst listed k → os[k]? = some ok → ok.dst = some d → ∀ β, KVok kn β → TRel ρ' β (getT sn.tmps d) (a.tmps.getD d undef)) →
      ∀ k ok d, Lst (listed.setIfInBounds i true) k → os[k]? = some ok → ok.dst = some d → ∀ β, KVok kn β → TRel ρ' β (getT sn.tmps d) ((a.put o.dst v).tmps.getD d undef) := fun v ρ' hv hbefore k ok d hlk hok hdk β hβ => by
    have hkm : k < os.length := (List.getElem?_eq_some_iff.1 hok).1
    rw [put_getD]
    by_cases hki : k = i
    · subst hki
      rw [ho] at hok
      cases hok
      by_cases hds : d < a.tmps.size
      · rw [if_pos ⟨hdk, hds⟩]
        have hslot := evF_slot (X := X) (os := os) (s0 := s0) (ρ := ρ') (β := β) (t := d) (r := v) (by omega : k + 1 ≤ os.length) hq1 hd.last hβ (fun k2 o2 hk1 hk2 ho2 hd2 => by
          have := hd.draws.dup k k2 o o2 d hkm hk2 ho ho2 hdk hd2
          omega)
        rw [← hslot]
        show TRel ρ' β (getT (setT tmps' o.dst tv) d) v
        obtain ⟨_, _, hl'⟩ := evEff_ex he (evF_keys hsi).1
        rw [setT_getT, if_pos ⟨hdk, by rw [hl', elen, ← h.asize]; exact hds⟩]
        exact hv β hβ
      · have hnone : getT sn.tmps d = .unk := by
          simp only [getT_def]
          have e7 : sn.tmps.length = s0.tmps.length := (evF_keys hd.last).2
          have e8 : a.tmps.size = s0.tmps.length := h.asize
          have e9 : a.tmps.size ≤ d := Nat.le_of_not_lt hds
          rw [List.getElem?_eq_none (by omega)]
        rw [hnone]
        trivial
    · have hlk' : Lst listed k := by
        rcases (lst_set hisz).1 hlk with e | e
        · exact absurd e hki
        · exact e
      have hne : o.dst ≠ some d := fun e => hki (hd.draws.dup k i ok o d hkm hin hok ho hdk e)
      rw [if_neg (fun hh => hne hh.1)]
      exact hbefore k ok d hlk' hok hdk β hβ
  cases hf : flO o with
  | true =>
    rw [hf] at he
    obtain ⟨t2, k2, r2, he2, hob2⟩ := hd.float i o si ki tmps' k1 tv r p sp kp ho hf hsi he hobs.1 hsp hpn hcut (fun d od hod hfd hdp hmem => by
      have hld := (hL d od hod hfd).2 hdp
      exact hnl (closed_reach h.closed (h.closed d od hod hld) i hmem)) (fun d od hod hfd hpd hmem => by
      have := (hL d od hod hfd).1 (hre d hmem)
      omega)
    obtain ⟨rfl, rfl⟩ := evEff_guard he he2
    refine evEff_sound hX ho he2 hob2 hp (ρ := ρ) (Cβ := KVok kn) (evF_keys hd.last).1 hsub h.base h.inv (fun ρ' ha => (hρ ρ' ha).1) hT (fun v w' ρ1 ha hn hfin hk hq => hK _ _ ?_)
    obtain ⟨g1, g2, g3, g4, g5⟩ := hq rfl
    subst g5
    rw [g1, g3] at hfin
    refine ⟨by simpa using h.size, mkClosed, by rw [put_size]; exact h.asize, by rw [put_defers]; exact h.defers, Nat.le_trans h.base hk.size, J.keeps hp hk h.inv, h.keeps.trans hk, mkOld v, p, sp, kp, ρ1, hsp, hpn, hcut, fun j oj hoj hfj => ?_, hag, hnid, fun ρ' ha' => ⟨(hfin ρ' ha').1, mkNew v ρ' (hfin ρ' ha').2 (hρ ρ' ha').2⟩⟩
    rw [lst_set hisz]
    constructor
    · rintro (rfl | e)
      · rw [ho] at hoj; cases hoj; rw [hf] at hfj; cases hfj
      · exact (hL j oj hoj hfj).1 e
    · intro e; exact .inr ((hL j oj hoj hfj).2 e)
  | false =>
    rw [hf] at he
    have hpi : p ≤ i := by
      rcases Nat.lt_or_ge i p with c | c
      · exact absurd ((hL i o ho hf).2 c) hnl
      · exact c
    have hq := evF_quiet hpi hsp hsi (fun j oj hj1 hj2 hoj => by
      cases hfj : flO oj with
      | true => rfl
      | false =>
        have := (hL j oj hoj hfj).1 (hre j (hd.chain j i oj o hj2 hoj ho hfj hf))
        omega)
    refine evEff_sound hX ho he hobs.1 hp (ρ := ρ) (Cβ := KVok kn) (evF_keys hd.last).1 hsub h.base h.inv (fun ρ' ha => by rw [hq.1]; rw [hq.2] at ha; exact (hρ ρ' ha).1) (fun ρ' ha β hβ t ht => hT ρ' (by rw [hq.2] at ha; exact ha) β hβ t ht) (fun v w' ρ1 ha hn hfin hk _ => hK _ _ ?_)
    rw [hq.2] at ha hn
    refine ⟨by simpa using h.size, mkClosed, by rw [put_size]; exact h.asize, by rw [put_defers]; exact h.defers, Nat.le_trans h.base hk.size, J.keeps hp hk h.inv, h.keeps.trans hk, mkOld v, i + 1, _, _, ρ1, hq1, by omega, .inr ⟨i, o, rfl, ho, hf⟩, fun j oj hoj hfj => ?_,
      fun j hj => (ha j (by omega)).trans (hag j hj), by show s0.nid ≤ r.n; omega, fun ρ' ha' => ⟨(hfin ρ' ha').1, mkNew v ρ' (hfin ρ' ha').2 (hρ ρ' (fun j hj => (ha' j (Nat.lt_of_lt_of_le hj hn)).trans (ha j hj))).2⟩⟩
    rw [lst_set hisz]
    constructor
    · rintro (rfl | e)
      · omega
      · have := (hL j oj hoj hfj).1 e; omega
    · intro e
      by_cases e2 : j = i
      · exact .inl e2
      · exact .inr (hre j (hd.chain j i oj o (by omega) hoj ho hfj hf))

theorem spine_all {X : Cx} {J : Inv X.P} {B : Nat} {M : Nat → Prop} {w0 : Bas} {os : List Oper} {s0 sn : St} {kn : KV} (hd : Spine X os s0 sn kn) {a0 : Act} {ρ0 : Num} (h0 : ∀ ρ', Agree s0.nid ρ0 ρ' → ∀ β t, TRel ρ' β (getT s0.tmps t) (a0.tmps.getD t undef)) {listed : Array Bool} {a : Act} {w : World}
    (h : HalfS X J B M w0 os s0 a0 ρ0 sn kn listed a w) (hρ0 : w0.n ≤ s0.nid ∧ Agree w0.n w0.ρ ρ0) (hall : ∀ k, k < os.length → Lst listed k) : RepR X.P J B M w0 kn sn a w := by
  obtain ⟨p, sp, kp, ρ, hsp, hpn, hcut, hL, hag, hnid, hρ⟩ := h.cut
  obtain ⟨e4, e5⟩ := evF_keys hd.last
  have hq := evF_quiet hpn hsp hd.last (fun j oj hj1 hj2 hoj => by
    cases hfj : flO oj with
    | true => rfl
    | false =>
      have := (hL j oj hoj hfj).1 (hall j hj2)
      omega)
  refine ⟨by rw [e5]; exact h.asize, h.defers, h.base, h.inv, h.keeps, e4, ρ, ⟨by rw [hq.2]; omega, fun j hj => (hag j (by omega)).trans (hρ0.2 j hj)⟩, fun ρ' ha => ?_⟩
  rw [hq.2] at ha
  rw [hq.1]
  refine ⟨(hρ ρ' ha).1, fun β hβ t => ?_⟩
  by_cases hw : ∃ (k : Nat) (o : Oper), os[k]? = some o ∧ o.dst = some t
  · obtain ⟨k, o, ho, hdst⟩ := hw
    exact (hρ ρ' ha).2 k o t (hall k (List.getElem?_eq_some_iff.1 ho).1) ho hdst β hβ
  · have hno : ∀ (k : Nat) (o : Oper), os[k]? = some o → o.dst ≠ some t := fun k o ho e => hw ⟨k, o, ho, e⟩
    rw [h.old t (fun k o _ ho => hno k o ho)]
    exact (evF_slot (Nat.zero_le os.length) rfl hd.last hβ (fun k o _ _ ho => hno k o ho)).1 (h0 ρ' (fun j hj => (ha j (by omega)).trans (hag j hj)) β t)

/-- The drawn region, whatever the order. -/
theorem spine_sound {X : Cx} {J : Inv X.P} (hX : CxOk X J) {B : Nat} {M : Nat → Prop} (hp : Par X.P B M) {w0 : Bas} {os : List Oper} {s0 sn : St} {kn : KV} (hd : Spine X os s0 sn kn) {a0 : Act} {ρ0 : Num}
    (h0 : ∀ ρ', Agree s0.nid ρ0 ρ' → ∀ β t, TRel ρ' β (getT s0.tmps t) (a0.tmps.getD t undef)) (hρ0 : w0.n ≤ s0.nid ∧ Agree w0.n w0.ρ ρ0)
    {rb : Option Nat} {Q : Exit → Act → World → Prop} (hQ : ∀ a w, RepR X.P J B M w0 kn sn a w → Q .normal a w) :
    ∀ (fuel : Nat) (listed : Array Bool) (a : Act) (w : World), unl listed os.length ≤ fuel → HalfS X J B M w0 os s0 a0 ρ0 sn kn listed a w → wpAnyIn (Fl rb) 0 X.P .any ⟨os⟩ Q fuel listed a w := by
  intro fuel
  induction fuel with
  | zero =>
    intro listed a w hf h
    have hall : ∀ k, k < os.length → Lst listed k := fun k hk => unl_zero (by omega) hk
    refine ⟨?_, hQ a w (spine_all hd h0 h hρ0 hall)⟩
    cases hr : Region.ready .any ⟨os⟩ listed with
    | nil => rfl
    | cons x xs =>
      have : x ∈ Region.ready .any ⟨os⟩ listed := by rw [hr]; simp
      obtain ⟨⟨h1, h2⟩, _⟩ := ready_iff.1 this
      exact absurd (hall x (by rw [← h.size]; exact h1)) h2
  | succ fuel ih =>
    intro listed a w hf h
    refine ⟨fun hr0 => ?_, fun i hi => ?_⟩
    · have hall : ∀ k, k < os.length → Lst listed k := by
        haveI : DecidablePred fun k => ¬ Lst listed k := fun k => Classical.propDecidable _
        intro k hk
        refine Classical.byContradiction fun hn => ?_
        obtain ⟨k, hk, hnl, hmin⟩ := least (p := fun k => ¬ Lst listed k) os.length ⟨k, hk, hn⟩
        obtain ⟨o, ho⟩ : ∃ o, os[k]? = some o := ⟨os[k], by simp [hk]⟩
        have : k ∈ Region.ready .any ⟨os⟩ listed := ready_iff.2 ⟨⟨by rw [h.size]; exact hk, hnl⟩, o, ho, fun e he => Classical.byContradiction fun hn => hmin e (hd.draws.fwd k o ho e he) hn⟩
        rw [hr0] at this
        cases this
      exact hQ a w (spine_all hd h0 h hρ0 hall)
    · obtain ⟨⟨h1, h2⟩, o, ho, hpre⟩ := ready_iff.1 hi
      have hin : i < os.length := by rw [← h.size]; exact h1
      refine spine_step hX hp hd h0 h hi (fun a' w' h' => ih _ a' w' ?_ h')
      have := unl_set hin h.size h2
      omega

end
end Go.Proofs.YtaopinmjgjpiiaaGreatDoor.Ev
