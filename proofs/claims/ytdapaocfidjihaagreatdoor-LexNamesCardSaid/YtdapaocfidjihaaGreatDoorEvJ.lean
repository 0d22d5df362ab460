/-
  The evaluator, part J: calls of all depths, out of contracts and out of the functions' own code.
-/
import Derived.Test.YtdapaocfidjihaaGreatDoorEvI
namespace Go.Proofs.YtdapaocfidjihaaGreatDoor.Ev
open Go Go.RowKit Go.Shelf
noncomputable section

/-- A call that names no memory, as a reckoning on values. -/
def pureCall (X : Cx) (L : Hints) (fuel : Nat) (f : FuncId) (args : List Value) (ds : List Bool) : Option (Value × List Prop) :=
  match pureL args with
  | false => none
  | true => match evFn X L fuel f args X.J.tabs X.P.globals.size ds with
    | none => none
    | some r => match pureV r.v with
      | true => some (r.v, r.obs)
      | false => none

abbrev Tab := FuncId → List Value → Option (Value × List Prop)
abbrev MTab := FuncId → List Value → Heap → Nat → List Bool → Option CR

/-- What all evaluations over one program share. -/
structure Base where
  P : Program
  J : Inv P
  auto : Bool
  tab : Tab
  mtab : MTab
  fuel : Nat
  xt : FuncId → List Value → Heap → Nat → Option CR

def Base.cx (b : Base) : Nat → Cx
  | 0 => ⟨b.P, b.J, b.auto, b.tab, b.mtab, b.xt, fun _ _ => none⟩
  | k + 1 => ⟨b.P, b.J, b.auto,
      fun f args => match b.tab f args with
        | some r => some r
        | none => match b.mtab f args [] 0 [] with
          | some _ => none
          | none => pureCall (b.cx k) [] b.fuel f args [],
      fun f args H n ds => match b.mtab f args H n ds with
        | some r => some r
        | none => evFn (b.cx k) [] b.fuel f args H n ds,
      b.xt,
      fun c s => evCode (b.cx k) [] b.fuel c s⟩

structure ProgOk (P : Program) : Prop where
  mixed : P.follows .mixedOrders = true
  names : ∀ (f : FuncId) (fn : Func), P.funcs[f]? = some fn → (fn.name == "runtime.NumGoroutine") = false

structure BaseOk (b : Base) : Prop where
  prog : ProgOk b.P
  tab : PcOk b.P b.J b.tab
  mtab : ClOk b.P b.J b.mtab
  xt : XtOk b.P b.J b.xt

theorem evFn_enters {X : Cx} (hng : ProgOk X.P) {L : Hints} {fuel f n : Nat} {args : List Value} {H : Heap} {ds : List Bool} {r : CR} (h : evFn X L fuel f args H n ds = some r) : Enters X.P f := by
  rw [evFn_eq] at h
  split at h
  case h_1 => cases h
  rename_i fn hfn
  split at h
  case h_1 => cases h
  rename_i c hc
  exact enters_of hfn (hng.names f fn hfn) hc

theorem evFn_nid {X : Cx} {L : Hints} {fuel f n : Nat} {args : List Value} {H : Heap} {ds : List Bool} {r : CR} (h : evFn X L fuel f args H n ds = some r) : n ≤ r.n := by
  rw [evFn_eq] at h
  split at h
  · cases h
  split at h
  · cases h
  split at h
  · cases h
  split at h
  · cases h
  split at h
  · cases h
  rename_i hb
  split at h
  · cases h
  split at h
  · cases h
  cases h
  exact Nat.le_of_ble_eq_true hb

theorem sim_empty {P : Program} {B : Nat} {M : Nat → Prop} {ρ' : Num} {w : World} (ha : Agree P.globals.size (fun i => if i < P.globals.size then some i else none) ρ') : Sim P B M ρ' [] w :=
  ⟨fun g hg => by rw [ha g hg]; simp [hg], fun i o h => by simp [Heap.get] at h, fun i j o o' h => by simp [Heap.get] at h⟩

theorem pureCall_sound {X : Cx} (hX : CxOk X X.J) (hng : ProgOk X.P) {L : Hints} {fuel f : Nat} {args : List Value} {ds : List Bool} {v : Value} {l : List Prop} (h : pureCall X L fuel f args ds = some (v, l)) (hl : allP l) :
    Pure X.P X.J f args v := by
  unfold pureCall at h
  split at h
  case h_1 => cases h
  rename_i hpa
  split at h
  case h_1 => cases h
  rename_i r hr
  split at h
  case h_2 => cases h
  rename_i hpv
  cases h
  refine ⟨hpa, hpv, .inl ⟨evFn_enters hng hr, fun w hI => ?_⟩⟩
  have hp : Par X.P w.heap.size (fun _ => False) := ⟨X.J.room w hI, fun _ _ h => h⟩
  have := (evFn_sound hX hng.mixed hr hl (ρ := fun i => if i < X.P.globals.size then some i else none) (vs := args) hp (Nat.le_refl _) hI (fun ρ' ha => ⟨X.J.tabsOk w ρ' _ _ hI (fun g hg => by rw [ha g hg]; simp [hg]), (rvL_pure ρ' args hpa).symm⟩)).2
  refine this.mono fun e w' ⟨ρ1, u, _, he, hk, hfin⟩ => ⟨?_, hk.below⟩
  have := (hfin ρ1 (Agree.refl _ _)).1
  rw [rv_pure ρ1 _ hpv] at this
  rw [he, this]

theorem Base.cx_ok {b : Base} (hb : BaseOk b) : ∀ k, CxOk (b.cx k) (b.cx k).J ∧ ProgOk (b.cx k).P
  | 0 => ⟨⟨hb.tab, hb.mtab, hb.xt, (fun _ _ _ _ h => by cases h), b.J.tabsOk, b.J.tabsRo⟩, hb.prog⟩
  | k + 1 => by
    obtain ⟨ih, hng⟩ := Base.cx_ok hb k
    have eP : (b.cx k).P = b.P := by cases k <;> rfl
    refine ⟨⟨fun f args v l h hl => ?_, fun f args H n ds r h hl => ?_, hb.xt, fun c s x s' h hl => ⟨evCode_obs _ _ _ _ _ h hl, ?_⟩, b.J.tabsOk, b.J.tabsRo⟩, hb.prog⟩
    · simp only [Base.cx] at h
      split at h
      · rename_i r hr
        cases h
        exact hb.tab f args v l hr hl
      · split at h
        · cases h
        have := pureCall_sound ih hng h hl
        clear ih hng h
        cases k with
        | zero => exact this
        | succ k => exact this
    · simp only [Base.cx] at h
      split at h
      · rename_i r' hr
        cases h
        exact hb.mtab f args H n ds r hr hl
      · have h1 := evFn_nid h
        have h2 := evFn_enters hng h
        have h3 := fun (B : Nat) (M : Nat → Prop) (ρ : Num) (w : World) (vs : List Value) hp hB hI hS => (evFn_sound ih hng.mixed h hl (B := B) (M := M) (ρ := ρ) (w := w) (vs := vs) hp hB hI hS).2
        clear ih hng h
        cases k with
        | zero => exact ⟨h1, h2, h3⟩
        | succ k => exact ⟨h1, h2, h3⟩
    · have h1 := fun (B : Nat) (M : Nat → Prop) (w0 : Bas) (rb : Option Nat) (a : Act) (w : World) hp hR Q hQ => evCode_sound ih hng.mixed (B := B) (M := M) (w0 := w0) (rb := rb) hp _ _ _ _ _ h hl a w hR Q hQ
      clear ih hng h
      cases k with
      | zero => exact h1
      | succ k => exact h1

/-- ONE WAY THROUGH A FUNCTION: the tests come out as the list says, and what is left open holds. -/
theorem pure_of {b : Base} (hb : BaseOk b) (k : Nat) (L : Hints) (ds : List Bool) {f : FuncId} {args : List Value} {v : Value} {l : List Prop} (h : pureCall (b.cx k) L b.fuel f args ds = some (v, l)) (hl : allP l) : Pure b.P b.J f args v := by
  obtain ⟨h1, h2⟩ := Base.cx_ok hb k
  have := pureCall_sound h1 h2 h hl
  clear h1 h2 h
  cases k with
  | zero => exact this
  | succ k => exact this

def tab0 : Tab := fun _ _ => none
def mtab0 : MTab := fun _ _ _ _ _ => none
def xt0 : FuncId → List Value → Heap → Nat → Option CR := fun _ _ _ _ => none
theorem xt0_ok (P : Program) (J : Inv P) : XtOk P J xt0 := fun _ _ _ _ _ h => by cases h
/-- One more. -/
def xtAdd (f : FuncId) (spec : List Value → Heap → Nat → Option CR) (t : FuncId → List Value → Heap → Nat → Option CR) : FuncId → List Value → Heap → Nat → Option CR := fun g args H n =>
  match Nat.beq g f with
  | true => spec args H n
  | false => t g args H n

def XsOk (P : Program) (J : Inv P) (f : FuncId) (spec : List Value → Heap → Nat → Option CR) : Prop :=
  ∀ args H n r, spec args H n = some r → allP r.obs → n ≤ r.n ∧ ∀ (B : Nat) (M : Nat → Prop) (ρ : Num) (w : World) (vs : List Value), Par P B M → B ≤ w.heap.size → J.I w →
    (∀ ρ', Agree n ρ ρ' → Sim P B M ρ' H w ∧ vs = rvL ρ' args) →
    ∃ ρ1 v w', Agree n ρ ρ1 ∧ (callFunc f ⟨vs⟩).run P w = .ok (.value v) w' ∧ Keeps B M w w' ∧ ∀ ρ', Agree r.n ρ1 ρ' → v = rv ρ' r.v ∧ Sim P B M ρ' r.h w'

theorem xtAdd_ok {P : Program} {J : Inv P} {f : FuncId} {spec : List Value → Heap → Nat → Option CR} {t : FuncId → List Value → Heap → Nat → Option CR} (h : XsOk P J f spec) (ht : XtOk P J t) : XtOk P J (xtAdd f spec t) := by
  intro g args H n r hs hl
  unfold xtAdd at hs
  split at hs
  · rename_i hg
    have := Nat.eq_of_beq_eq_true hg
    subst this
    exact h args H n r hs hl
  · exact ht g args H n r hs hl

theorem tab0_ok (P : Program) (J : Inv P) : PcOk P J tab0 := fun _ _ _ _ h => by cases h
theorem mtab0_ok (P : Program) (J : Inv P) : ClOk P J mtab0 := fun _ _ _ _ _ _ h => by cases h

/-- One contract more. 'spec': the result and what is asked of the arguments. -/
def tabAdd (f : FuncId) (spec : List Value → Option (Value × List Prop)) (t : Tab) : Tab := fun g args =>
  match Nat.beq g f with
  | true => spec args
  | false => t g args

theorem tabAdd_ok {P : Program} {J : Inv P} {f : FuncId} {spec : List Value → Option (Value × List Prop)} {t : Tab} (h : ∀ args v l, spec args = some (v, l) → allP l → Pure P J f args v) (ht : PcOk P J t) : PcOk P J (tabAdd f spec t) := by
  intro g args v l hs hl
  unfold tabAdd at hs
  split at hs
  · rename_i hg
    have := Nat.eq_of_beq_eq_true hg
    subst this
    exact h args v l hs hl
  · exact ht g args v l hs hl

end
end Go.Proofs.YtdapaocfidjihaaGreatDoor.Ev
