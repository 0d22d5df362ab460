/-
  Several texts in one (merge.py): EvJ, EvK.
-/
import Derived.Test.YtaopinmjgjpiiaaGreatDoorEvI

/-
  The evaluator, part J: calls of all depths, out of contracts and out of the functions' own code.
-/
namespace Go.Proofs.YtaopinmjgjpiiaaGreatDoor.Ev
open Go Go.RowKit Go.Shelf
noncomputable section

/-- A call that names no memory, as a reckoning on values. -/
def pureCall (X : Cx) (L : Hints) (fuel : Nat) (f : FuncId) (args : List Value) (ds : List Bool) : Option (Value × List Prop) :=
  match pureL args with
  | false => none
  | true => match evFn X L fuel f args X.J.tabs X.P.globals.size ds with
    | none => none
    | some r => match pureV r.v with
      | true => some (r.v, r.obs)
      | false => none

abbrev Tab := FuncId → List Value → Option (Value × List Prop)
abbrev MTab := FuncId → List Value → Heap → Nat → List Bool → Option CR

/-- What all evaluations over one program share. -/
structure Base where
  P : Program
  J : Inv P
  auto : Bool
  tab : Tab
  mtab : MTab
  fuel : Nat
  xt : FuncId → List Value → Heap → Nat → Option CR

def Base.cx (b : Base) : Nat → Cx
  | 0 => ⟨b.P, b.J, b.auto, b.tab, b.mtab, b.xt, fun _ _ => none⟩
  | k + 1 => ⟨b.P, b.J, b.auto,
      fun f args => match b.tab f args with
        | some r => some r
        | none => match b.mtab f args [] 0 [] with
          | some _ => none
          | none => pureCall (b.cx k) [] b.fuel f args [],
      fun f args H n ds => match b.mtab f args H n ds with
        | some r => some r
        | none => evFn (b.cx k) [] b.fuel f args H n ds,
      b.xt,
      fun c s => evCode (b.cx k) [] b.fuel c s⟩

structure ProgOk (P : Program) : Prop where
  mixed : P.follows .mixedOrders = true
  names : ∀ (f : FuncId) (fn : Func), P.funcs[f]? = some fn → (fn.name == "runtime.NumGoroutine") = false

structure BaseOk (b : Base) : Prop where
  prog : ProgOk b.P
  tab : PcOk b.P b.J b.tab
  mtab : ClOk b.P b.J b.mtab
  xt : XtOk b.P b.J b.xt

theorem evFn_enters {X : Cx} (hng : ProgOk X.P) {L : Hints} {fuel f n : Nat} {args : List Value} {H : Heap} {ds : List Bool} {r : CR} (h : evFn X L fuel f args H n ds = some r) : Enters X.P f := by
  rw [evFn_eq] at h
  split at h
  case h_1 => cases h
  rename_i fn hfn
  split at h
  case h_1 => cases h
  rename_i c hc
  exact enters_of hfn (hng.names f fn hfn) hc

theorem evFn_nid {X : Cx} {L : Hints} {fuel f n : Nat} {args : List Value} {H : Heap} {ds : List Bool} {r : CR} (h : evFn X L fuel f args H n ds = some r) : n ≤ r.n := by
  rw [evFn_eq] at h
  split at h
  · cases h
  split at h
  · cases h
  split at h
  · cases h
  split at h
  · cases h
  split at h
  · cases h
  rename_i hb
  split at h
  · cases h
  split at h
  · cases h
  cases h
  exact Nat.le_of_ble_eq_true hb

theorem sim_empty {P : Program} {B : Nat} {M : Nat → Prop} {ρ' : Num} {w : World} (ha : Agree P.globals.size (fun i => if i < P.globals.size then some i else none) ρ') : Sim P B M ρ' [] w :=
  ⟨fun g hg => by rw [ha g hg]; simp [hg], fun i o h => by simp [Heap.get] at h, fun i j o o' h => by simp [Heap.get] at h⟩

theorem pureCall_sound {X : Cx} (hX : CxOk X X.J) (hng : ProgOk X.P) {L : Hints} {fuel f : Nat} {args : List Value} {ds : List Bool} {v : Value} {l : List Prop} (h : pureCall X L fuel f args ds = some (v, l)) (hl : allP l) :
    Pure X.P X.J f args v := by
  unfold pureCall at h
  split at h
  case h_1 => cases h
  rename_i hpa
  split at h
  case h_1 => cases h
  rename_i r hr
  split at h
  case h_2 => cases h
  rename_i hpv
  cases h
  refine ⟨hpa, hpv, .inl ⟨evFn_enters hng hr, fun w hI => ?_⟩⟩
  have hp : Par X.P w.heap.size (fun _ => False) := ⟨X.J.room w hI, fun _ _ h => h⟩
  have := (evFn_sound hX hng.mixed hr hl (ρ := fun i => if i < X.P.globals.size then some i else none) (vs := args) hp (Nat.le_refl _) hI (fun ρ' ha => ⟨X.J.tabsOk w ρ' _ _ hI (fun g hg => by rw [ha g hg]; simp [hg]), (rvL_pure ρ' args hpa).symm⟩)).2
  refine this.mono fun e w' ⟨ρ1, u, _, he, hk, hfin⟩ => ⟨?_, hk.below⟩
  have := (hfin ρ1 (Agree.refl _ _)).1
  rw [rv_pure ρ1 _ hpv] at this
  rw [he, this]

theorem Base.cx_ok {b : Base} (hb : BaseOk b) : ∀ k, CxOk (b.cx k) (b.cx k).J ∧ ProgOk (b.cx k).P
  | 0 => ⟨⟨hb.tab, hb.mtab, hb.xt, (fun _ _ _ _ h => by cases h), b.J.tabsOk, b.J.tabsRo⟩, hb.prog⟩
  | k + 1 => by
    obtain ⟨ih, hng⟩ := Base.cx_ok hb k
    have eP : (b.cx k).P = b.P := by cases k <;> rfl
    refine ⟨⟨fun f args v l h hl => ?_, fun f args H n ds r h hl => ?_, hb.xt, fun c s x s' h hl => ⟨evCode_obs _ _ _ _ _ h hl, ?_⟩, b.J.tabsOk, b.J.tabsRo⟩, hb.prog⟩
    · simp only [Base.cx] at h
      split at h
      · rename_i r hr
        cases h
        exact hb.tab f args v l hr hl
      · split at h
        · cases h
        have := pureCall_sound ih hng h hl
        clear ih hng h
        cases k with
        | zero => exact this
        | succ k => exact this
    · simp only [Base.cx] at h
      split at h
      · rename_i r' hr
        cases h
        exact hb.mtab f args H n ds r hr hl
      · have h1 := evFn_nid h
        have h2 := evFn_enters hng h
        have h3 := fun (B : Nat) (M : Nat → Prop) (ρ : Num) (w : World) (vs : List Value) hp hB hI hS => (evFn_sound ih hng.mixed h hl (B := B) (M := M) (ρ := ρ) (w := w) (vs := vs) hp hB hI hS).2
        clear ih hng h
        cases k with
        | zero => exact ⟨h1, h2, h3⟩
        | succ k => exact ⟨h1, h2, h3⟩
    · have h1 := fun (B : Nat) (M : Nat → Prop) (w0 : Bas) (rb : Option Nat) (a : Act) (w : World) hp hR Q hQ => evCode_sound ih hng.mixed (B := B) (M := M) (w0 := w0) (rb := rb) hp _ _ _ _ _ h hl a w hR Q hQ
      clear ih hng h
      cases k with
      | zero => exact h1
      | succ k => exact h1

/-- ONE WAY THROUGH A FUNCTION: the tests come out as the list says, and what is left open holds. -/
theorem pure_of {b : Base} (hb : BaseOk b) (k : Nat) (L : Hints) (ds : List Bool) {f : FuncId} {args : List Value} {v : Value} {l : List Prop} (h : pureCall (b.cx k) L b.fuel f args ds = some (v, l)) (hl : allP l) : Pure b.P b.J f args v := by
  obtain ⟨h1, h2⟩ := Base.cx_ok hb k
  have := pureCall_sound h1 h2 h hl
  clear h1 h2 h
  cases k with
  | zero => exact this
  | succ k => exact this

def tab0 : Tab := fun _ _ => none
def mtab0 : MTab := fun _ _ _ _ _ => none
def xt0 : FuncId → List Value → Heap → Nat → Option CR := fun _ _ _ _ => none
theorem xt0_ok (P : Program) (J : Inv P) : XtOk P J xt0 := fun _ _ _ _ _ h => by cases h
/-- One more. -/
def xtAdd (f : FuncId) (spec : List Value → Heap → Nat → Option CR) (t : FuncId → List Value → Heap → Nat → Option CR) : FuncId → List Value → Heap → Nat → Option CR := fun g args H n =>
  match Nat.beq g f with
  | true => spec args H n
  | false => t g args H n

def XsOk (P : Program) (J : Inv P) (f : FuncId) (spec : List Value → Heap → Nat → Option CR) : Prop :=
  ∀ args H n r, spec args H n = some r → allP r.obs → n ≤ r.n ∧ ∀ (B : Nat) (M : Nat → Prop) (ρ : Num) (w : World) (vs : List Value), Par P B M → B ≤ w.heap.size → J.I w →
    (∀ ρ', Agree n ρ ρ' → Sim P B M ρ' H w ∧ vs = rvL ρ' args) →
    ∃ ρ1 v w', Agree n ρ ρ1 ∧ (callFunc f ⟨vs⟩).run P w = .ok (.value v) w' ∧ Keeps B M w w' ∧ ∀ ρ', Agree r.n ρ1 ρ' → v = rv ρ' r.v ∧ Sim P B M ρ' r.h w'

theorem xtAdd_ok {P : Program} {J : Inv P} {f : FuncId} {spec : List Value → Heap → Nat → Option CR} {t : FuncId → List Value → Heap → Nat → Option CR} (h : XsOk P J f spec) (ht : XtOk P J t) : XtOk P J (xtAdd f spec t) := by
  intro g args H n r hs hl
  unfold xtAdd at hs
  split at hs
  · rename_i hg
    have := Nat.eq_of_beq_eq_true hg
    subst this
    exact h args H n r hs hl
  · exact ht g args H n r hs hl

theorem tab0_ok (P : Program) (J : Inv P) : PcOk P J tab0 := fun _ _ _ _ h => by cases h
theorem mtab0_ok (P : Program) (J : Inv P) : ClOk P J mtab0 := fun _ _ _ _ _ _ h => by cases h

/-- One contract more. 'spec': the result and what is asked of the arguments. -/
def tabAdd (f : FuncId) (spec : List Value → Option (Value × List Prop)) (t : Tab) : Tab := fun g args =>
  match Nat.beq g f with
  | true => spec args
  | false => t g args

theorem tabAdd_ok {P : Program} {J : Inv P} {f : FuncId} {spec : List Value → Option (Value × List Prop)} {t : Tab} (h : ∀ args v l, spec args = some (v, l) → allP l → Pure P J f args v) (ht : PcOk P J t) : PcOk P J (tabAdd f spec t) := by
  intro g args v l hs hl
  unfold tabAdd at hs
  split at hs
  · rename_i hg
    have := Nat.eq_of_beq_eq_true hg
    subst this
    exact h args v l hs hl
  · exact ht g args v l hs hl

end
end Go.Proofs.YtaopinmjgjpiiaaGreatDoor.Ev

/-
  The evaluator, part K: loops whose number of rounds is not fixed: states that stand for others, steps, the loop's rule.
-/
namespace Go.Proofs.YtaopinmjgjpiiaaGreatDoor.Ev
open Go Go.RowKit Go.Shelf
noncomputable section

theorem rFn_low {ρ ρ' : Num} {n : Nat} (h : Agree n ρ ρ') (f : Fn) (hf : lowFn n f = true) : rFn ρ' f = rFn ρ f := by
  cases f <;> first | rfl | skip
  rename_i l
  simp only [lowFn, Nat.blt_eq] at hf
  simp only [rFn, h l hf]

mutual
theorem low_noE {n : Nat} : ∀ v : Value, lowV n v = true → noE v = true
  | .chan (some _), h => by simp only [lowV] at h; cases h
  | .chan none, _ => by simp only [noE]
  | .func _ f c, h => by
      simp only [lowV, Bool.and_eq_true] at h
      simp only [noE, low_noEA f h.1.2, low_noEA c h.2, Bool.and_true]
  | .iface _ v, h => by simp only [lowV] at h; simp only [noE]; exact low_noE v h
  | .agg cs, h => by simp only [lowV] at h; simp only [noE]; exact low_noEA cs h
  | .tuple vs, h => by simp only [lowV] at h; simp only [noE]; exact low_noEA vs h
  | .bool _, _ => by simp only [noE]
  | .int _ _, _ => by simp only [noE]
  | .float _ _, _ => by simp only [noE]
  | .complex _ _ _, _ => by simp only [noE]
  | .string _, _ => by simp only [noE]
  | .pointer _, _ => by simp only [noE]
  | .slice _ _ _, _ => by simp only [noE]
  | .map _, _ => by simp only [noE]
  | .nilFunc, _ => by simp only [noE]
  | .nilIface, _ => by simp only [noE]
theorem low_noEA {n : Nat} : ∀ v : Array Value, lowA n v = true → noEA v = true
  | ⟨l⟩, h => by simp only [lowA] at h; simp only [noEA]; exact low_noEL l h
theorem low_noEL {n : Nat} : ∀ v : List Value, lowL n v = true → noEL v = true
  | [], _ => by simp only [noEL]
  | v :: l, h => by
      simp only [lowL, Bool.and_eq_true] at h
      simp only [noEL, low_noE v h.1, low_noEL l h.2, Bool.and_true]
end

mutual
theorem rv_low {ρ ρ' : Num} {n : Nat} (h : Agree n ρ ρ') : ∀ v : Value, lowV n v = true → rv ρ' v = rv ρ v
  | .pointer (some a), hv => by simp only [lowV, Nat.blt_eq] at hv; simp only [rv, rAddr, h _ hv]
  | .slice (some ⟨j, off, none⟩) _ _, hv => by simp only [lowV, Bool.and_true, Nat.blt_eq] at hv; simp only [rv, rSl, rAddr, h _ hv]
  | .slice (some ⟨j, off, some k⟩) _ _, hv => by simp only [lowV, Bool.and_eq_true, Nat.blt_eq] at hv; simp only [rv, rSl, h _ hv.1, h _ hv.2]
  | .map (some r), hv => by simp only [lowV, Nat.blt_eq] at hv; simp only [rv, h _ hv]
  | .func fn f c, hv => by
      simp only [lowV, Bool.and_eq_true] at hv
      simp only [rv, rFn_low h fn hv.1.1, rvA_low h f hv.1.2, rvA_low h c hv.2]
  | .iface t v, hv => by simp only [lowV] at hv; simp only [rv, rv_low h v hv]
  | .agg cs, hv => by simp only [lowV] at hv; simp only [rv, rvA_low h cs hv]
  | .tuple vs, hv => by simp only [lowV] at hv; simp only [rv, rvA_low h vs hv]
  | .bool _, _ => by simp only [rv]
  | .int _ _, _ => by simp only [rv]
  | .float _ _, _ => by simp only [rv]
  | .complex _ _ _, _ => by simp only [rv]
  | .string _, _ => by simp only [rv]
  | .pointer none, _ => by simp only [rv]
  | .slice none _ _, _ => by simp only [rv]
  | .map none, _ => by simp only [rv]
  | .chan none, _ => by simp only [rv]
  | .chan (some m), hv => by simp only [lowV] at hv; cases hv
  | .nilFunc, _ => by simp only [rv]
  | .nilIface, _ => by simp only [rv]
theorem rvA_low {ρ ρ' : Num} {n : Nat} (h : Agree n ρ ρ') : ∀ v : Array Value, lowA n v = true → rvA ρ' v = rvA ρ v
  | ⟨l⟩, hv => by simp only [lowA] at hv; simp only [rvA, rvL_low h l hv]
theorem rvL_low {ρ ρ' : Num} {n : Nat} (h : Agree n ρ ρ') : ∀ v : List Value, lowL n v = true → rvL ρ' v = rvL ρ v
  | [], _ => by simp only [rvL]
  | v :: l, hv => by
      simp only [lowL, Bool.and_eq_true] at hv
      simp only [rvL, rv_low h v hv.1, rvL_low h l hv.2]
end

/-- What is to be compared: values and objects that were found, and those that are asked for. -/
structure Pairs where
  xs : List Value
  ys : List Value
  os : List AObj
  qs : List AObj

def Pairs.add (a b : Pairs) : Pairs := ⟨a.xs ++ b.xs, a.ys ++ b.ys, a.os ++ b.os, a.qs ++ b.qs⟩

def fitT (σ : Ren) (n : Nat) : List TV → List TV → Option (List Value × List Value)
  | [], [] => some ([], [])
  | _ :: ys, .unk :: zs => fitT σ n ys zs
  | .v x :: ys, .v x' :: zs => match lowV n x', fitT σ n ys zs with
    | true, some (l, l') => some (x :: l, rn σ x' :: l')
    | _, _ => none
  | _, _ => none

def lowTs (b : Nat) : List (Option Value) → Bool
  | [] => true
  | some x :: r => lowV b x && lowTs b r
  | none :: r => lowTs b r

def fitRow (σ : Ren) (n : Nat) : Row → Row → Option Pairs
  | .vals xs, .vals xs' => match lowL n xs' && Nat.beq xs.length xs'.length with
    | true => some ⟨xs, rnL σ xs', [], []⟩
    | false => none
  | .ints k ns, .ints k' ns' => some ⟨[], [], [.ints k ns], [.ints k' ns']⟩
  | _, _ => none

def fitO (b : Nat) (σ : Ren) (n : Nat) : AObj → AObj → Option Pairs
  | .row e sz r k, .row e' sz' r' k' => match Nat.beq e e' && Nat.beq sz sz' && Nat.beq (σ.to k') k && Nat.blt k' n with
    | true => fitRow σ n r r'
    | false => none
  | .cells cs t, .cells cs' t' => match Nat.beq t t' && lowL n cs' && Nat.beq cs.length cs'.length with
    | true => some ⟨cs, rnL σ cs', [], []⟩
    | false => none
  | .iter s p, .iter s' p' => some ⟨[], [], [.iter s p], [.iter s' p']⟩
  | .ints k xs, .ints k' xs' => some ⟨[], [], [.ints k xs], [.ints k' xs']⟩
  | .fam f m sz o, .fam f' m' sz' o' => some ⟨[], [], [.fam f m sz o], [.fam f' m' sz' o']⟩
  | .loop st pn ts ps asg bd, .loop st' pn' ts' ps' asg' bd' => match lowTs b ts' with
    | true => some ⟨[], [], [.loop st pn ts ps asg bd], [.loop st' pn' ts' ps' asg' bd']⟩
    | false => none
  | .defr, .defr => some ⟨[], [], [], []⟩
  | .dead, .dead => some ⟨[], [], [], []⟩
  | _, _ => none

def outO (σ : Ren) (i : Nat) : Heap → Bool
  | [] => true
  | (j, _) :: r => !(Nat.beq (σ.to i) (σ.to j)) && outO σ i r

def fitH (b : Nat) (σ : Ren) (n : Nat) (H : Heap) : Heap → Option Pairs
  | [] => some ⟨[], [], [], []⟩
  | (i, o') :: r => match H.get (σ.to i), Nat.blt i n, outO σ i r with
    | some o, true, true => match fitO b σ n o o', fitH b σ n H r with
      | some l, some l' => some (l.add l')
      | _, _ => none
    | _, _, _ => none

def fixed (σ : Ren) : List Nat → Bool
  | [] => true
  | i :: r => Nat.beq (σ.to i) i && fixed σ r

def eqO : Option Nat → Option Nat → Bool
  | none, none => true
  | some i, some j => Nat.beq i j
  | _, _ => false

def renAbove (b : Nat) : Ren → Bool
  | [] => true
  | (j, _) :: r => Nat.ble b j && renAbove b r

def marksOf : List Mk → Option (List Nat)
  | [] => some []
  | .mark i :: r => match marksOf r with
    | some l => some (i :: l)
    | none => none
  | .call _ _ _ :: _ => none

theorem marksOf_spec : ∀ {l : List Mk} {m : List Nat}, marksOf l = some m → l = m.map .mark
  | [], m, h => by simp only [marksOf] at h; cases h; rfl
  | .mark i :: r, m, h => by
    simp only [marksOf] at h
    split at h
    · rename_i l hl
      cases h
      rw [List.map_cons, ← marksOf_spec hl]
    · cases h
  | .call _ _ _ :: _, m, h => by simp only [marksOf] at h; cases h

/-- A state that stands for s: what must hold for it. -/
def fit (P : Program) (σ : Ren) (s s' : St) : Option Pairs :=
  match s, s' with
  | ⟨tm, hp, _, _, _, _, rd, mk, bs⟩, ⟨tm', hp', n', _, _, _, rd', mk', bs'⟩ => match marksOf mk, marksOf mk' with
   | some mq, some mq' =>
    match renAbove bs σ && fixed σ mq && eqNs mq mq' && eqO rd rd' && Nat.beq bs bs' && Nat.ble bs n' && Nat.ble P.globals.size bs && mq.all (fun i => Nat.blt i n') && (match rd with | some l => Nat.blt l bs | none => true) with
    | false => none
    | true => match fitT σ n' tm tm', fitH bs σ n' hp hp' with
      | some (l, l'), some q => some ⟨l ++ q.xs, l' ++ q.ys, q.os, q.qs⟩
      | _, _ => none
   | _, _ => none

theorem Ren.to_below {b : Nat} : ∀ {σ : Ren}, renAbove b σ = true → ∀ i, i < b → σ.to i = i
  | [], _, i, _ => rfl
  | (j, k) :: r, h, i, hi => by
    simp only [renAbove, Bool.and_eq_true, Nat.ble_eq] at h
    simp only [Ren.to]
    rw [beq_false (by omega)]
    exact Ren.to_below h.2 i hi

theorem fixed_spec {σ : Ren} : ∀ {l : List Nat}, fixed σ l = true → ∀ i ∈ l, σ.to i = i
  | [], _, i, hi => by cases hi
  | j :: r, h, i, hi => by
    simp only [fixed, Bool.and_eq_true, Nat.beq_eq] at h
    rcases List.mem_cons.1 hi with rfl | hi
    · exact h.1
    · exact fixed_spec h.2 i hi

theorem eqNs_spec : ∀ {l l' : List Nat}, eqNs l l' = true → l = l'
  | [], [], _ => rfl
  | [], _ :: _, h => by simp [eqNs] at h
  | _ :: _, [], h => by simp [eqNs] at h
  | i :: r, j :: r', h => by
    simp only [eqNs, Bool.and_eq_true, Nat.beq_eq] at h
    rw [h.1, eqNs_spec h.2]

theorem eqO_spec {a b : Option Nat} (h : eqO a b = true) : a = b := by
  cases a <;> cases b <;> simp_all [eqO]

theorem fitT_spec {σ : Ren} {n : Nat} : ∀ {ts ts' : List TV} {l l' : List Value}, fitT σ n ts ts' = some (l, l') → l.length = l'.length ∧ (l = l' → ts'.length = ts.length ∧ (∀ t, plainT (getT ts' t) = true) ∧ ∀ t x', getT ts' t = .v x' → lowV n x' = true ∧ getT ts t = .v (rn σ x'))
  | [], [], l, l', h => by
    simp only [fitT] at h; cases h
    exact ⟨rfl, fun _ => ⟨rfl, fun t => by simp [getT_def, plainT], fun t x' h => by simp [getT_def] at h⟩⟩
  | [], z :: zs, l, l', h => by cases z <;> simp [fitT] at h
  | y :: ys, [], l, l', h => by cases y <;> simp [fitT] at h
  | y :: ys, z :: zs, l, l', h => by
    have get0 : ∀ (u : TV) (us : List TV), getT (u :: us) 0 = u := fun u us => rfl
    have getS : ∀ (u : TV) (us : List TV) (t : Nat), getT (u :: us) (t + 1) = getT us t := fun u us t => by simp [getT_def]
    cases z with
    | unk =>
      have h : fitT σ n ys zs = some (l, l') := by cases y <;> simpa [fitT] using h
      obtain ⟨h0, hh⟩ := fitT_spec h
      refine ⟨h0, fun he => ?_⟩
      obtain ⟨h1, h2, h3⟩ := hh he
      refine ⟨by simp [h1], fun t => ?_, fun t x' hx => ?_⟩
      · cases t with
        | zero => rfl
        | succ t => rw [getS]; exact h2 t
      · cases t with
        | zero => rw [get0] at hx; cases hx
        | succ t => rw [getS] at hx ⊢; exact h3 t x' hx
    | v x0 =>
      cases y with
      | v y0 =>
        simp only [fitT] at h
        split at h
        · rename_i l0 l0' hlow hr
          cases h
          obtain ⟨h0, hh⟩ := fitT_spec hr
          refine ⟨by simp [h0], fun he => ?_⟩
          injection he with e1 e2
          obtain ⟨h1, h2, h3⟩ := hh e2
          refine ⟨by simp [h1], fun t => ?_, fun t x' hx => ?_⟩
          · cases t with
            | zero => rfl
            | succ t => rw [getS]; exact h2 t
          · cases t with
            | zero => rw [get0] at hx ⊢; cases hx; exact ⟨hlow, by rw [e1]⟩
            | succ t => rw [getS] at hx ⊢; exact h3 t x' hx
        · cases h
      | _ => simp [fitT] at h
    | sp l0 x0 => cases y <;> simp [fitT] at h
    | key j l0 b => cases y <;> simp [fitT] at h

theorem lowTs_spec {b : Nat} : ∀ {ts : List (Option Value)}, lowTs b ts = true → ∀ (t : Nat) (x : Value), ts[t]? = some (some x) → lowV b x = true
  | [], _, t, x, h => by simp at h
  | some y :: r, h, t, x, hx => by
    simp only [lowTs, Bool.and_eq_true] at h
    cases t with
    | zero => simp at hx; subst hx; exact h.1
    | succ t => exact lowTs_spec h.2 t x (by simpa using hx)
  | none :: r, h, t, x, hx => by
    simp only [lowTs] at h
    cases t with
    | zero => simp at hx
    | succ t => exact lowTs_spec h t x (by simpa using hx)

theorem fitRow_spec {σ : Ren} {n : Nat} {r r' : Row} {l : Pairs} (h : fitRow σ n r r' = some l) (hl : l.xs = l.ys ∧ l.os = l.qs) {ρ ρ' : Num} (ha : Agree n (fun i => ρ (σ.to i)) ρ') : rvL ρ' r'.list = rvL ρ r.list ∧ r'.list.length = r.list.length := by
  unfold fitRow at h
  split at h
  · rename_i xs xs'
    split at h
    · rename_i hc
      simp only [Bool.and_eq_true, Nat.beq_eq] at hc
      cases h
      have e : xs = rnL σ xs' := hl.1
      simp only [Row.list]
      refine ⟨?_, hc.2.symm⟩
      rw [rvL_low ha xs' hc.1, ← rvL_rn _ _ _ (low_noEL _ hc.1), ← e]
    · cases h
  · cases h
    have e := hl.2
    simp only [List.cons.injEq, AObj.ints.injEq, and_true] at e
    obtain ⟨e1, e2⟩ := e
    subst e1 e2
    simp only [Row.list]
    refine ⟨?_, trivial⟩
    rename_i k ns
    have : pureL (ns.map (Value.int k)) = true := by rw [pureL_eq]; simp [pureV]
    rw [rvL_pure ρ' _ this, rvL_pure ρ _ this]
  · cases h

theorem fitRow_len {σ : Ren} {n : Nat} {r r' : Row} {l : Pairs} (h : fitRow σ n r r' = some l) : l.xs.length = l.ys.length ∧ l.os.length = l.qs.length := by
  unfold fitRow at h
  split at h
  · split at h
    · rename_i hc
      simp only [Bool.and_eq_true, Nat.beq_eq] at hc
      cases h
      exact ⟨by rw [rnL_length]; exact hc.2, rfl⟩
    · cases h
  · cases h; exact ⟨rfl, rfl⟩
  · cases h

theorem fitO_spec {b : Nat} {B : Nat} {M : Nat → Prop} {σ : Ren} {n : Nat} {o o' : AObj} {l : Pairs} (h : fitO b σ n o o' = some l) (hl : l.xs = l.ys ∧ l.os = l.qs) {ρ ρ' : Num} {w : World} {i : Nat} (ha : Agree n (fun i => ρ (σ.to i)) ρ') (hb : Agree b ρ ρ') (hi : i < n) (ho : ORep B M ρ w (ρ (σ.to i)) o) : ORep B M ρ' w (ρ' i) o' ∧ o'.rw = o.rw := by
  rw [show ρ' i = ρ (σ.to i) from ha i hi]
  cases o' with
  | row e' sz' r' k' =>
    cases o with
    | row e sz r k =>
      simp only [fitO] at h
      split at h
      · rename_i hc
        simp only [Bool.and_eq_true, Nat.beq_eq, Nat.blt_eq] at hc
        obtain ⟨⟨⟨c1, c2⟩, c3⟩, c4⟩ := hc
        subst c1 c2 c3
        obtain ⟨f1, f2⟩ := fitRow_spec h hl ha
        refine ⟨?_, rfl⟩
        rcases ho with ⟨h1, h2⟩ | ⟨bb, cap, cur, h1, h2, h3, h4, h5, h6, h7, h8⟩
        · exact .inl ⟨h1, List.eq_nil_of_length_eq_zero (by rw [f2, h2]; rfl)⟩
        · exact .inr ⟨bb, cap, cur, h1, by rw [ha k' c4]; exact h2, h3, h4, h5, h6, by rw [f2]; exact h7, by rw [f2, f1]; exact h8⟩
      · cases h
    | _ => simp [fitO] at h
  | cells cs' t' =>
    cases o with
    | cells cs t =>
      simp only [fitO] at h
      split at h
      · rename_i ht
        simp only [Bool.and_eq_true, Nat.beq_eq] at ht
        obtain ⟨⟨ht, h1⟩, _⟩ := ht
        subst ht
        cases h
        have h2 : cs = rnL σ cs' := hl.1
        obtain ⟨b, hb, hw, hown⟩ := ho
        refine ⟨⟨b, hb, ?_, hown⟩, rfl⟩
        rw [rvL_low ha cs' h1, ← rvL_rn _ _ _ (low_noEL _ h1), ← h2]
        exact hw
      · cases h
    | _ => simp [fitO] at h
  | iter s' p' =>
    cases o with
    | iter s p => simp only [fitO] at h; cases h; have e := hl.2; simp only [List.cons.injEq, AObj.iter.injEq, and_true] at e; obtain ⟨e1, e2⟩ := e; subst e1; subst e2; exact ⟨ho, rfl⟩
    | _ => simp [fitO] at h
  | ints k' xs' =>
    cases o with
    | ints k xs => simp only [fitO] at h; cases h; have e := hl.2; simp only [List.cons.injEq, AObj.ints.injEq, and_true] at e; obtain ⟨e1, e2⟩ := e; subst e1; subst e2; exact ⟨ho, rfl⟩
    | _ => simp [fitO] at h
  | loop st pn ts ps asg bd =>
    cases o with
    | loop st0 pn0 ts0 ps0 asg0 bd0 =>
      simp only [fitO] at h
      split at h
      · rename_i hlow
        cases h
        have e : AObj.loop st0 pn0 ts0 ps0 asg0 bd0 = AObj.loop st pn ts ps asg bd := List.head_eq_of_cons_eq hl.2
        cases e
        obtain ⟨b1, r1, h1, h2, h3, h4⟩ := ho
        refine ⟨⟨b1, r1, h1, h2, ⟨h3.1, h3.2.1, h3.2.2.1, h3.2.2.2.1, h3.2.2.2.2.1, h3.2.2.2.2.2.1, fun t x hx => ?_⟩, h4⟩, rfl⟩
        rw [h3.2.2.2.2.2.2 t x hx, rv_low hb x (lowTs_spec hlow t x hx)]
      · cases h
    | _ => simp [fitO] at h
  | defr =>
    cases o with
    | defr => exact ⟨ho, rfl⟩
    | _ => simp [fitO] at h
  | dead =>
    cases o with
    | dead => exact ⟨ho, rfl⟩
    | _ => simp [fitO] at h
  | ro xs => cases o <;> simp [fitO] at h
  | fam f' m' sz' o' =>
    cases o with
    | fam f m sz o => simp only [fitO] at h; cases h; have e := hl.2; simp only [List.cons.injEq, AObj.fam.injEq, and_true] at e; obtain ⟨e1, e2, e3, e4⟩ := e; subst e1; subst e2; subst e3; subst e4; exact ⟨ho, rfl⟩
    | _ => simp [fitO] at h
  | map es => cases o <;> simp [fitO] at h

theorem outO_spec {σ : Ren} {i : Nat} : ∀ {H : Heap}, outO σ i H = true → ∀ j o, H.get j = some o → σ.to i ≠ σ.to j
  | [], _, j, o, h => by simp [Heap.get] at h
  | (k, q) :: r, h, j, o, hj => by
    simp only [outO, Bool.and_eq_true, Bool.not_eq_true'] at h
    rw [Heap.get_cons] at hj
    split at hj
    · rename_i e; subst e
      intro e
      rw [e, Nat.beq_refl] at h
      cases h.1
    · exact outO_spec h.2 j o hj

theorem Pairs.add_eq {a b : Pairs} (h : (a.add b).xs = (a.add b).ys ∧ (a.add b).os = (a.add b).qs) (h1 : a.xs.length = a.ys.length) (h2 : a.os.length = a.qs.length) : (a.xs = a.ys ∧ a.os = a.qs) ∧ b.xs = b.ys ∧ b.os = b.qs := by
  obtain ⟨e1, e2⟩ := List.append_inj h.1 h1
  obtain ⟨e3, e4⟩ := List.append_inj h.2 h2
  exact ⟨⟨e1, e3⟩, e2, e4⟩

theorem fitO_len {b : Nat} {σ : Ren} {n : Nat} {o o' : AObj} {l : Pairs} (h : fitO b σ n o o' = some l) : l.xs.length = l.ys.length ∧ l.os.length = l.qs.length := by
  unfold fitO at h
  split at h
  · split at h
    · exact fitRow_len h
    · cases h
  · split at h
    · rename_i ht
      simp only [Bool.and_eq_true, Nat.beq_eq] at ht
      cases h
      exact ⟨by rw [rnL_length]; exact ht.2, rfl⟩
    · cases h
  · cases h; exact ⟨rfl, rfl⟩
  · cases h; exact ⟨rfl, rfl⟩
  · cases h; exact ⟨rfl, rfl⟩
  · split at h
    · cases h; exact ⟨rfl, rfl⟩
    · cases h
  · cases h; exact ⟨rfl, rfl⟩
  · cases h; exact ⟨rfl, rfl⟩
  · cases h

theorem fitH_spec {b : Nat} {σ : Ren} {n : Nat} {H : Heap} : ∀ {H' : Heap} {l : Pairs}, fitH b σ n H H' = some l → (l.xs = l.ys ∧ l.os = l.qs) →
    (∀ i o', H'.get i = some o' → i < n ∧ ∃ o l0, H.get (σ.to i) = some o ∧ fitO b σ n o o' = some l0 ∧ (l0.xs = l0.ys ∧ l0.os = l0.qs)) ∧ ∀ i j o o', H'.get i = some o → H'.get j = some o' → i ≠ j → σ.to i ≠ σ.to j
  | [], l, _, _ => ⟨fun i o' h => by simp [Heap.get] at h, fun i j o o' h => by simp [Heap.get] at h⟩
  | (k, q) :: r, l, h, hl => by
    simp only [fitH] at h
    split at h
    · rename_i o hg hlt hout
      split at h
      · rename_i l1 l2 h1 h2
        cases h
        obtain ⟨n1, n2⟩ := fitO_len h1
        obtain ⟨hl1, hl2⟩ := Pairs.add_eq hl n1 n2
        obtain ⟨g1, g2⟩ := fitH_spec h2 hl2
        refine ⟨fun i o' hi => ?_, fun i j oi oj hi hj hij => ?_⟩
        · rw [Heap.get_cons] at hi
          split at hi
          · rename_i e; subst e; cases hi
            exact ⟨by simpa [Nat.blt_eq] using hlt, o, l1, hg, h1, hl1⟩
          · exact g1 i o' hi
        · rw [Heap.get_cons] at hi hj
          split at hi <;> split at hj
          · rename_i e1 e2; exact absurd (e1.symm.trans e2) hij
          · rename_i e1 e2; subst e1; exact outO_spec hout j oj hj
          · rename_i e1 e2; subst e2; exact fun e => outO_spec hout i oi hi e.symm
          · exact g2 i j oi oj hi hj hij
      · cases h
    · cases h

theorem Rep.fit {P : Program} {J : Inv P} {B : Nat} {M : Nat → Prop} {w0 : Bas} {rb : Option Nat} {s s' : St} {a : Act} {w : World} (hR : Rep P J B M w0 rb s a w) {σ : Ren} {l : Pairs} (h : fit P σ s s' = some l) (hl : l.xs = l.ys ∧ l.os = l.qs) : Rep P J B M w0 rb s' a w := by
  unfold Ev.fit at h
  dsimp only at h
  split at h
  case h_2 => cases h
  rename_i mq mq' hmq hmq'
  split at h
  · cases h
  rename_i hc
  simp only [Bool.and_eq_true, List.all_eq_true, Nat.blt_eq, Nat.ble_eq, Nat.beq_eq] at hc
  obtain ⟨⟨⟨⟨⟨⟨⟨⟨c1, c2⟩, c3⟩, c4⟩, c5⟩, c6⟩, c7⟩, c8⟩, c9⟩ := hc
  split at h
  case h_2 => cases h
  rename_i l1 l1' q h1 h2
  cases h
  obtain ⟨tl, hT0⟩ := fitT_spec h1
  obtain ⟨hx1, hx2⟩ := List.append_inj hl.1 tl
  obtain ⟨t1, t2, t3⟩ := hT0 hx1
  obtain ⟨g1, g2⟩ := fitH_spec h2 ⟨hx2, hl.2⟩
  have e3 := eqNs_spec c3
  have e4 := eqO_spec c4
  obtain ⟨ρ, hρ0, hρ⟩ := hR.rep
  obtain ⟨hS, hF, hT⟩ := hρ ρ (Agree.refl _ _)
  have below : ∀ i, i < s.bs → σ.to i = i := fun i hi => Ren.to_below c1 i hi
  have hbb : ∀ ρ', Agree s'.nid (fun i => ρ (σ.to i)) ρ' → Agree s.bs ρ ρ' := fun ρ' ha i hi => by
    rw [ha i (by omega)]
    show ρ (σ.to i) = _
    rw [below i hi]
  refine ⟨by rw [← c5]; exact hR.low, t2, by rw [t1]; exact hR.size, hR.base, hR.inv, hR.keeps, fun i => ρ (σ.to i), ⟨by rw [hR.low]; exact c6, fun i hi => ?_⟩, fun ρ' ha => ⟨⟨fun g hg => ?_, fun i o hi => ?_, fun i j o o' hi hr hj hij hne => ?_⟩, ⟨?_, ?_⟩, fun t x hx => ?_⟩⟩
  · show ρ (σ.to i) = _
    rw [below i (by rw [← hR.low]; exact hi)]
    exact hρ0.2 i hi
  · rw [ha g (by omega)]
    show ρ (σ.to g) = _
    rw [below g (by omega)]
    exact hS.glob g hg
  · obtain ⟨hlt, o1, l0, k1, k2, k3⟩ := g1 i o hi
    exact (fitO_spec k2 k3 ha (hbb _ ha) hlt (hS.obj _ _ k1)).1
  · obtain ⟨hlt, o1, l0, k1, k2, k3⟩ := g1 i o hi
    obtain ⟨hlt', o1', l0', k1', k2', k3'⟩ := g1 j o' hj
    have hrw := (fitO_spec k2 k3 ha (hbb _ ha) hlt (hS.obj _ _ k1)).2
    rw [ha i hlt] at hne ⊢
    rw [ha j hlt']
    exact hS.inj _ _ _ _ k1 (by rw [← hrw]; exact hr) k1' (g2 i j o o' hi hj hij) hne
  · rw [hF.defers, marksOf_spec hmq, marksOf_spec hmq', ← e3, List.map_map, List.map_map]
    refine List.map_congr_left (fun i hi => ?_)
    simp only [Function.comp]
    show Deferred.mk (.collected ((ρ i).getD 0)) #[] = Deferred.mk (.collected ((ρ' i).getD 0)) #[]
    rw [ha i (c8 i hi)]
    show _ = Deferred.mk (.collected ((ρ (σ.to i)).getD 0)) #[]
    rw [fixed_spec c2 i hi]
  · rw [hF.round, ← e4]
    cases hrd : s.rd with
    | none => rfl
    | some l =>
      rw [hrd] at c9
      simp only [Nat.blt_eq] at c9
      show ρ l = ρ' l
      rw [ha l (by omega)]
      show _ = ρ (σ.to l)
      rw [below l c9]
  · obtain ⟨k1, k2⟩ := t3 t x hx
    rw [hT t _ k2, rv_rn _ _ _ (low_noE _ k1), rv_low ha x k1]

/-- A step from state to state. -/
def Step (X : Cx) (c : Code) (s : St) (x : AX) (s' : St) : Prop :=
  ∀ (B : Nat) (M : Nat → Prop) (w0 : Bas) (rb : Option Nat) (a : Act) (w : World), Par X.P B M → Rep X.P X.J B M w0 rb s a w → c.wpIn (Fl rb) 0 X.P (fun e a' w' => e = x.toExit ∧ Rep X.P X.J B M w0 rb s' a' w') a w

def eqAX : AX → AX → Bool
  | .normal, .normal => true
  | .ret, .ret => true
  | .exit i, .exit j => Nat.beq i j
  | _, _ => false

theorem eqAX_spec {x y : AX} (h : eqAX x y = true) : x = y := by
  cases x <;> cases y <;> simp_all [eqAX]

/-- One step, reckoned: what is to be compared; what is left open. -/
def stepR (X : Cx) (L : Hints) (fuel : Nat) (c : Code) (ds : List Bool) (σ : Ren) (s : St) (x : AX) (s' : St) : Option (Pairs × List Prop) :=
  match s with
  | ⟨tm, hp, n, _, _, _, rd, mq, bs⟩ => match evCode X L fuel c ⟨tm, hp, n, ds, [], 0, rd, mq, bs⟩ with
    | none => none
    | some (x1, s1) => match eqAX x1 x, fit X.P σ s1 s' with
      | true, some l => some (l, s1.obs)
      | _, _ => none

def obsOf : Option (Pairs × List Prop) → List Prop
  | some (_, l) => l
  | none => [False]
def xsOf : Option (Pairs × List Prop) → List Value
  | some (p, _) => p.xs
  | none => []
def ysOf : Option (Pairs × List Prop) → List Value
  | some (p, _) => p.ys
  | none => []
def osOf : Option (Pairs × List Prop) → List AObj
  | some (p, _) => p.os
  | none => []
def qsOf : Option (Pairs × List Prop) → List AObj
  | some (p, _) => p.qs
  | none => []

theorem step_of {X : Cx} (hX : CxOk X X.J) (hm : X.P.follows .mixedOrders = true) (L : Hints) (fuel : Nat) {c : Code} (ds : List Bool) (σ : Ren) {s s' : St} {x : AX} {l : List Prop} (h : obsOf (stepR X L fuel c ds σ s x s') = l) (hl : allP l)
    (h1 : xsOf (stepR X L fuel c ds σ s x s') = ysOf (stepR X L fuel c ds σ s x s')) (h2 : osOf (stepR X L fuel c ds σ s x s') = qsOf (stepR X L fuel c ds σ s x s')) : Step X c s x s' := by
  subst h
  cases hr : stepR X L fuel c ds σ s x s' with
  | none => rw [hr] at hl; exact absurd hl.1 id
  | some r =>
    obtain ⟨p, o⟩ := r
    rw [hr] at hl h1 h2
    unfold stepR at hr
    dsimp only at hr
    split at hr
    · cases hr
    rename_i x1 s1 he
    split at hr
    · rename_i l0 hx hf
      cases hr
      have := eqAX_spec hx
      subst this
      intro B M w0 rb a w hp hR
      exact evCode_sound hX hm hp fuel c _ x1 s1 he hl a w (hR.same rfl rfl rfl rfl rfl rfl) _ (fun a' w' hR' => ⟨rfl, hR'.fit hf ⟨h1, h2⟩⟩)
    · cases hr

/-- THE LOOP's RULE: each state of the family leads on to a lesser one, or out. -/
theorem loop_of {ι : Type} {X : Cx} {c : Code} (T : ι → St) (μ : ι → Nat) (Good : ι → Prop) {x : AX} (hx : x ≠ .normal) {s' : St} (h : ∀ i, Good i → (∃ j, Good j ∧ μ j < μ i ∧ Step X c (T i) .normal (T j)) ∨ Step X c (T i) x s') (i : ι) (hi : Good i) : LoopTo X c (T i) x s' := by
  intro B M w0 rb a w hp hR
  refine wpIn_loop_rounds (μ i + 1) ?_
  have key : ∀ (n : Nat) (i : ι), Good i → μ i < n → ∀ a w, Rep X.P X.J B M w0 rb (T i) a w → Code.roundsIn (Fl rb) 0 X.P c (fun e a' w' => e = x.toExit ∧ Rep X.P X.J B M w0 rb s' a' w') n a w := by
    intro n
    induction n with
    | zero => intro i _ h; omega
    | succ n ih =>
      intro i hi hn a w hR
      rw [roundsIn_succ]
      rcases h i hi with ⟨j, hj, hlt, hs⟩ | hs
      · refine wpIn_mono (hs B M w0 rb a w hp hR) (fun e a' w' ⟨he, hR'⟩ => ?_)
        subst he
        exact ih j hj (by omega) a' w' hR'
      · refine wpIn_mono (hs B M w0 rb a w hp hR) (fun e a' w' ⟨he, hR'⟩ => ?_)
        subst he
        cases x with
        | normal => exact absurd rfl hx
        | exit id => exact ⟨rfl, hR'⟩
        | ret => exact ⟨rfl, hR'⟩
  exact key _ i hi (by omega) a w hR

/-- Into the family. -/
theorem loop_into {X : Cx} {c : Code} {s s1 s' : St} {x : AX} (h : LoopTo X c s1 x s') (σ : Ren) {l : Pairs} (hf : fit X.P σ s s1 = some l) (hl : l.xs = l.ys ∧ l.os = l.qs) : LoopTo X c s x s' :=
  fun B M w0 rb a w hp hR => h B M w0 rb a w hp (hR.fit hf hl)

theorem loop_into' {X : Cx} {c : Code} {s s1 s' : St} {x : AX} (h : LoopTo X c s1 x s') (σ : Ren) (h0 : (fit X.P σ s s1).isSome = true) (h1 : xsOf ((fit X.P σ s s1).map fun p => (p, [])) = ysOf ((fit X.P σ s s1).map fun p => (p, []))) (h2 : osOf ((fit X.P σ s s1).map fun p => (p, [])) = qsOf ((fit X.P σ s s1).map fun p => (p, []))) : LoopTo X c s x s' := by
  cases hf : fit X.P σ s s1 with
  | none => rw [hf] at h0; cases h0
  | some p =>
    rw [hf] at h1 h2
    exact loop_into h σ hf ⟨h1, h2⟩

/-- The loops of a code, from the outermost's first on. -/
def loopsOf : Code → List Code
  | .seq a b => loopsOf a ++ loopsOf b
  | .cond _ a b => loopsOf a ++ loopsOf b
  | .block _ a => loopsOf a
  | .scope a => loopsOf a
  | .loop a => a :: loopsOf a
  | _ => []

def loopAt (P : Program) (f k : Nat) : Code := match P.funcs[f]? with
  | some fn => match fn.body with
    | some c => match (loopsOf c)[k]? with
      | some r => r
      | none => .skip
    | none => .skip
  | none => .skip

/-- The state in which a function comes to its loop. -/
def startAt (X : Cx) (fuel f : Nat) (args : List Value) (H : Heap) (n : Nat) (ds : List Bool) : St :=
  match X.P.funcs[f]? with
  | some fn => match fn.body with
    | some c => match evCode X [fun s => some (.exit 1000000, s)] fuel c ⟨args.map .v ++ List.replicate (fn.ntmps - args.length) (.v undef), H, n, ds, [], 0, none, [], n⟩ with
      | some (_, s) => s.core
      | none => ⟨[], [], 0, [], [], 0, none, [], 0⟩
    | none => ⟨[], [], 0, [], [], 0, none, [], 0⟩
  | none => ⟨[], [], 0, [], [], 0, none, [], 0⟩

/-- Up to the first loop or range over a function. -/
def grab (X : Cx) : Nat → Code → St → Option (St ⊕ (AX × St))
  | 0, _, _ => none
  | f + 1, c, s =>
    match c with
    | .seq c1 c2 => match grab X f c1 s with
      | some (.inr (.normal, s1)) => grab X f c2 s1
      | r => r
    | .block id c1 => match grab X f c1 s with
      | some (.inr (.exit i, s1)) => match Nat.beq i id with
        | true => some (.inr (.normal, s1))
        | false => some (.inr (.exit i, s1))
      | r => r
    | .cond o c1 c2 => match evo s.tmps [] o with
      | some (.bool b) => match s.ds with
        | d :: ds => match d with
          | true => grab X f c1 (s.bit ds (b = true))
          | false => grab X f c2 (s.bit ds (b = false))
        | [] => match b with
          | true => grab X f c1 s
          | false => grab X f c2 s
      | _ => none
    | .loop _ => some (.inl s)
    | .rangeFunc _ _ _ _ => some (.inl s)
    | c => match evCode X [] (f + 1) c s with
      | some r => some (.inr r)
      | none => none

def rangeOf : Code → Option (List Nat × Code × Code)
  | .seq a b => match rangeOf a with
    | some r => some r
    | none => rangeOf b
  | .cond _ a b => match rangeOf a with
    | some r => some r
    | none => rangeOf b
  | .block _ a => rangeOf a
  | .loop a => rangeOf a
  | .rangeFunc _ ⟨ps⟩ asg bd => some (ps, asg, bd)
  | _ => none

/-- The state in which the function that the first range of f goes over is entered. -/
def enterAt (X : Cx) (fuel f : Nat) (args : List Value) (H : Heap) (n : Nat) (ds : List Bool) : St :=
  match X.P.funcs[f]? with
  | some fn => match fn.body with
    | some c => match grab X fuel c ⟨args.map .v ++ List.replicate (fn.ntmps - args.length) (.v undef), H, n, ds, [], 0, none, [], n⟩, rangeOf c with
      | some (.inl s), some (ps, asg, bd) => match enterL s ps asg bd with
        | some (_, s1) => s1
        | none => ⟨[], [], 0, [], [], 0, none, [], 0⟩
      | _, _ => ⟨[], [], 0, [], [], 0, none, [], 0⟩
    | none => ⟨[], [], 0, [], [], 0, none, [], 0⟩
  | none => ⟨[], [], 0, [], [], 0, none, [], 0⟩

/-- Known of the temporaries: these, and no other. -/
def only (k : Nat) (l : List (Nat × Value)) : List TV := (List.range k).map fun i => match l.find? (fun p => Nat.beq p.1 i) with
  | some p => .v p.2
  | none => .unk

/-- A function whose loops are told. -/
def mtabL (b : Base) (k : Nat) (L : Hints) (f0 : FuncId) : MTab := fun f args H n ds => match Nat.beq f f0 with
  | true => evFn (b.cx k) L b.fuel f args H n ds
  | false => none

theorem mtabL_ok {b : Base} (hb : BaseOk b) (k : Nat) (L : Hints) (f0 : FuncId) : ClOk b.P b.J (mtabL b k L f0) := by
  intro f args H n ds r h hl
  obtain ⟨h1, h2⟩ := Base.cx_ok hb k
  unfold mtabL at h
  split at h
  · have e1 := evFn_nid h
    have e2 := evFn_enters h2 h
    have e3 := fun (B : Nat) (M : Nat → Prop) (ρ : Num) (w : World) (vs : List Value) hp hB hI hS => (evFn_sound h1 h2.mixed h hl (B := B) (M := M) (ρ := ρ) (w := w) (vs := vs) hp hB hI hS).2
    clear h1 h2 h
    cases k with
    | zero => exact ⟨e1, e2, e3⟩
    | succ k => exact ⟨e1, e2, e3⟩
  · cases h

/-- A hint's answer: this state, the tests to come as they stood. -/
def told (x : AX) (f : St → St) : St → Option (AX × St) := fun s =>
  match s with
  | ⟨tm, hp, n, ds, o, lp, rd, mq, b⟩ => match f ⟨tm, hp, n, [], [], 0, rd, mq, b⟩ with
    | ⟨tm', hp', n', _, _, _, rd', mq', b'⟩ => some (x, ⟨tm', hp', n', ds, o, lp, rd', mq', b'⟩)

end
end Go.Proofs.YtaopinmjgjpiiaaGreatDoor.Ev
