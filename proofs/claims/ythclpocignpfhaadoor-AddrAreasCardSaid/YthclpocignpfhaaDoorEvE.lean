/-
  The evaluator, part E: one operation of a region.
-/
import Derived.Test.YthclpocignpfhaaDoorEvD
import Derived.Orders
import Derived.OrdersIn
import Derived.LoopNIn
import Derived.RangeFuncRecord
import Derived.RangeFuncCalls
import Derived.Shelf.Abstract
namespace Go.Proofs.YthclpocignpfhaaDoor.Ev
open Go Go.RowKit Go.Shelf

/-- What is known of a temporary: nothing; a value; a value, where some tests came out so (else nothing was laid); a test's outcome that has a key. -/
inductive TV where
  | unk
  | v (x : Value)
  | sp (l : List (Nat × Bool)) (x : Value)
  | key (j : Nat) (l : List (Nat × Bool)) (b : Bool)

def getT (ts : List TV) (t : Nat) : TV := match ts[t]? with
  | some x => x
  | none => .unk

def beqB (a b : Bool) : Bool := match a, b with
  | true, true => true
  | false, false => true
  | _, _ => false

def memC (p : Nat × Bool) : List (Nat × Bool) → Bool
  | [] => false
  | q :: r => (Nat.beq p.1 q.1 && beqB p.2 q.2) || memC p r

def subC : List (Nat × Bool) → List (Nat × Bool) → Bool
  | [], _ => true
  | p :: r, c => memC p c && subC r c

def rd (c : List (Nat × Bool)) : TV → Option Value
  | .unk => none
  | .v x => some x
  | .sp l x => match subC l c with
    | true => some x
    | false => none
  | .key _ l b => match subC l c with
    | true => some (.bool b)
    | false => none

def evo (ts : List TV) (c : List (Nat × Bool)) : Operand → Option Value
  | .tmp t => rd c (getT ts t)
  | .const v => match pureV v with
    | true => some v
    | false => none
  | .global g => some (.pointer (some ⟨g, 0, none⟩))
  | .func f => some (.func (.func f) #[] #[])

/-- The tests came out so. -/
def V (β : Nat → Bool) (l : List (Nat × Bool)) : Prop := ∀ p ∈ l, β p.1 = p.2

def TRel (ρ : Num) (β : Nat → Bool) : TV → Value → Prop
  | .unk, _ => True
  | .v x, r => r = rv ρ x
  | .sp l x, r => (V β l → r = rv ρ x) ∧ (¬ V β l → r = undef)
  | .key j l b, r => β j = b ∧ (V β l → r = .bool b) ∧ (¬ V β l → r = undef)

theorem beqB_eq {a b : Bool} (h : beqB a b = true) : a = b := by cases a <;> cases b <;> simp_all [beqB]

theorem memC_sound {p : Nat × Bool} : ∀ {c : List (Nat × Bool)}, memC p c = true → p ∈ c
  | [], h => by simp [memC] at h
  | q :: r, h => by
    simp only [memC, Bool.or_eq_true, Bool.and_eq_true] at h
    rcases h with ⟨h1, h2⟩ | h
    · have e : p = q := Prod.ext (Nat.eq_of_beq_eq_true h1) (beqB_eq h2)
      rw [e]; exact List.mem_cons_self
    · exact List.mem_cons_of_mem _ (memC_sound h)

theorem subC_sound {β : Nat → Bool} {c : List (Nat × Bool)} : ∀ {l : List (Nat × Bool)}, subC l c = true → V β c → V β l
  | [], _, _ => fun p hp => by cases hp
  | q :: r, h, hc => by
    simp only [subC, Bool.and_eq_true] at h
    intro p hp
    rcases List.mem_cons.1 hp with rfl | hp
    · exact hc _ (memC_sound h.1)
    · exact subC_sound h.2 hc p hp

theorem rd_sound {ρ : Num} {β : Nat → Bool} {c : List (Nat × Bool)} {x : TV} {v r : Value} (h : rd c x = some v) (hc : V β c) (hr : TRel ρ β x r) : r = rv ρ v := by
  cases x with
  | unk => simp [rd] at h
  | v y => simp only [rd] at h; cases h; exact hr
  | sp l y =>
    simp only [rd] at h
    split at h
    · rename_i hs; cases h; exact hr.1 (subC_sound hs hc)
    · cases h
  | key j l b =>
    simp only [rd] at h
    split at h
    · rename_i hs; cases h; simp only [rv]; exact hr.2.1 (subC_sound hs hc)
    · cases h

def Agree (n : Nat) (ρ ρ' : Num) : Prop := ∀ i, i < n → ρ' i = ρ i
theorem Agree.refl (n : Nat) (ρ : Num) : Agree n ρ ρ := fun _ _ => rfl
theorem Agree.trans {n m : Nat} {a b c : Num} (h : Agree n a b) (k : Agree m b c) (hnm : n ≤ m) : Agree n a c := fun i hi => (k i (by omega)).trans (h i hi)

structure CR where
  v : Value
  h : Heap
  n : Nat
  obs : List Prop
  ds : List Bool

/-- What is known of the world at all times: it hangs on the package-level variables alone. -/
structure Inv (P : Program) where
  I : World → Prop
  st : ∀ w w' : World, (∀ k, k < P.globals.size → w'.heap[k]? = w.heap[k]?) → w.heap.size ≤ w'.heap.size → I w → I w'
  room : ∀ w, I w → P.globals.size ≤ w.heap.size

/-- What is known of an activation: temporaries, memory, the next number, tests to come, what is left open, loops passed; the round it is (the loop's number), its marks. -/
structure St where
  tmps : List TV
  heap : Heap
  nid : Nat
  ds : List Bool
  obs : List Prop
  lp : Nat
  rd : Option Nat
  mks : List Nat
  bs : Nat

inductive AX where
  | normal
  | exit (id : Nat)
  | ret

def AX.toExit : AX → Exit
  | .normal => .normal
  | .exit id => .exit id
  | .ret => .ret

structure Cx where
  P : Program
  J : Inv P
  auto : Bool
  pc : FuncId → List Value → Option (Value × List Prop)
  cl : FuncId → List Value → Heap → Nat → List Bool → Option CR
  rd : Code → St → Option (AX × St)

structure Par (P : Program) (B : Nat) (M : Nat → Prop) : Prop where
  glo : P.globals.size ≤ B
  free : ∀ k, k < P.globals.size → ¬ M k

theorem Inv.keeps {P : Program} (J : Inv P) {B : Nat} {M : Nat → Prop} (hp : Par P B M) {w w' : World} (h : Keeps B M w w') (hi : J.I w) : J.I w' :=
  J.st w w' (fun k hk => h.block k (Nat.lt_of_lt_of_le hk hp.glo) (hp.free k hk)) h.size hi

/-- A call that names no memory: of a function with a body, or of one that the machine does by itself. -/
def Pure (P : Program) (J : Inv P) (f : FuncId) (args : List Value) (v : Value) : Prop :=
  pureL args = true ∧ pureV v = true ∧ ((Enters P f ∧ ∀ w, J.I w → Calls P f ⟨args⟩ w fun e w' => e = .returned v ∧ Below w.heap.size w w') ∨ ∀ w, J.I w → (callFunc f ⟨args⟩).run P w = .ok (.value v) w)

/-- Contracts that leave memory alone. -/
def PcOk (P : Program) (J : Inv P) (pc : FuncId → List Value → Option (Value × List Prop)) : Prop :=
  ∀ f args v l, pc f args = some (v, l) → allP l → Pure P J f args v

def ClOk (P : Program) (J : Inv P) (cl : FuncId → List Value → Heap → Nat → List Bool → Option CR) : Prop :=
  ∀ f args H n ds r, cl f args H n ds = some r → allP r.obs → n ≤ r.n ∧ Enters P f ∧ ∀ (B : Nat) (M : Nat → Prop) (ρ : Num) (w : World) (vs : List Value), Par P B M → B ≤ w.heap.size → J.I w →
    (∀ ρ', Agree n ρ ρ' → Sim P B M ρ' H w ∧ vs = rvL ρ' args) →
    Calls P f ⟨vs⟩ w fun e w' => ∃ ρ1 v, Agree n ρ ρ1 ∧ e = .returned v ∧ Keeps B M w w' ∧ ∀ ρ', Agree r.n ρ1 ρ' → v = rv ρ' r.v ∧ Sim P B M ρ' r.h w'

/-- Whence the activation began: its world, the numbers that were given out, its deferred calls. -/
structure Bas where
  w : World
  n : Nat
  ρ : Num
  dfs : List Deferred

def plainT : TV → Bool
  | .unk => true
  | .v _ => true
  | _ => false

/-- The fence: none, but for the round. -/
def Fl (rb : Option Nat) : Fence := { Fence.wide with round := rb }

def mkD (ρ : Num) (i : Nat) : Deferred := ⟨.collected ((ρ i).getD 0), #[]⟩

structure FR (ρ : Num) (rb : Option Nat) (s : St) (a : Act) : Prop where
  defers : a.defers = s.mks.map (mkD ρ)
  round : rb = s.rd.bind ρ

/-- A frame and a world as the state says, between regions. -/
structure Rep (P : Program) (J : Inv P) (B : Nat) (M : Nat → Prop) (w0 : Bas) (rb : Option Nat) (s : St) (a : Act) (w : World) : Prop where
  low : w0.n = s.bs
  plain : ∀ t, plainT (getT s.tmps t) = true
  size : a.tmps.size = s.tmps.length
  base : B ≤ w.heap.size
  inv : J.I w
  keeps : Keeps B M w0.w w
  rep : ∃ ρ, (w0.n ≤ s.nid ∧ Agree w0.n w0.ρ ρ) ∧ ∀ ρ', Agree s.nid ρ ρ' → Sim P B M ρ' s.heap w ∧ FR ρ' rb s a ∧ ∀ t x, getT s.tmps t = .v x → a.tmps.getD t undef = rv ρ' x

/-- Code that is walked within a round. -/
def RdOk (P : Program) (J : Inv P) (rd : Code → St → Option (AX × St)) : Prop :=
  ∀ c s x s', rd c s = some (x, s') → allP s'.obs → allP s.obs ∧ ∀ (B : Nat) (M : Nat → Prop) (w0 : Bas) (rb : Option Nat) (a : Act) (w : World), Par P B M → Rep P J B M w0 rb s a w →
    ∀ Q : Exit → Act → World → Prop, (∀ a' w', Rep P J B M w0 rb s' a' w' → Q x.toExit a' w') → c.wpIn (Fl rb) 0 P Q a w

structure CxOk (X : Cx) (J : Inv X.P) : Prop where
  pc : PcOk X.P J X.pc
  cl : ClOk X.P J X.cl
  rd : RdOk X.P J X.rd

theorem callsIn_Fl {rb : Option Nat} {n : Nat} {P : Program} {f : FuncId} {args : Array Value} {w : World} {R : Ending → World → Prop} (h : Calls P f args w R) : CallsIn (Fl rb) n P f args w R := by
  cases rb with
  | none => exact callsIn_wide.2 h
  | some l => exact CallsIn.inRound l (callsIn_wide.2 h)

theorem about_Fl {rb : Option Nat} {P : Program} {o : Oper} {w : World} {ρ : Operand → Value} : ∀ f, o.about P w ρ = some f → (Fl rb).fn f := fun _ _ => trivial

theorem wpIn_Fl {rb : Option Nat} {P : Program} {o : Oper} {a : Act} {w : World} {K : Act → World → Prop} {Q : Exit → Act → World → Prop} (hnd : ∀ c, o.op ≠ .defer c)
    (h : o.uponIn (Fl rb) 0 P a K Q ((execOp a.eval o).run P w)) : o.wpIn (Fl rb) 0 P a w K Q :=
  ⟨about_Fl, by rw [Oper.semAt_eq _ _ _ hnd]; exact h⟩

/-- Operations that leave memory alone. -/
def stillOp : Op → Bool
  | .move _ => true
  | .assign _ => true
  | .build _ _ => true
  | .load _ _ => true
  | .nilCheck _ => true
  | .binOp _ _ _ _ _ => true
  | .unOp _ _ _ => true
  | .convert _ _ _ => true
  | .makeInterface _ _ => true
  | .makeFunc _ _ _ => true
  | .slice _ _ _ _ _ => true
  | .fieldAddr _ _ _ => true
  | .field _ _ _ => true
  | .indexAddr _ _ _ => true
  | .index _ _ _ => true
  | .extract _ _ => true
  | _ => false

structure R where
  v : Value
  h : Heap
  obs : List Prop
  ds : List Bool

def mkR (H : Heap) (ds : List Bool) (x : Option Value) : Option R :=
  match x with
  | some v => some ⟨v, H, [], ds⟩
  | none => none
def mkR2 (H : Heap) (ds : List Bool) (x : Option (Value × List Prop)) : Option R :=
  match x with
  | some (v, l) => some ⟨v, H, l, ds⟩
  | none => none

def concreteT (P : Program) (t : TypeId) : Bool :=
  match P.underlying t with
  | none => false
  | some (.interface _) => false
  | some _ => true

def optO (ev : Operand → Option Value) : Option Operand → Option (Option Value)
  | none => some none
  | some x => match ev x with
    | some v => some (some v)
    | none => none

def evOp (P : Program) (auto : Bool) (ev : Operand → Option Value) (o : Oper) (H : Heap) (n : Nat) (ds : List Bool) : Option R :=
  match o.op with
  | .move x => mkR H ds (ev x)
  | .assign x => mkR H ds (ev x)
  | .alloc t => match zeroV P t with
    | some z => some ⟨.pointer (some ⟨n, 0, none⟩), (n, .cells z.cells.toList t) :: H, [], ds⟩
    | none => none
  | .box t x => match ev x with
    | some v => some ⟨.pointer (some ⟨n, 0, none⟩), (n, .cells v.cells.toList t) :: H, [], ds⟩
    | none => none
  | .build t ps => match evParts ev ps.toList with
    | some l => mkR H ds (evBuild P t l)
    | none => none
  | .buildSlice t len ps => match evParts ev ps.toList with
    | some l => match evBuildSlice P t len l with
      | some (e, cs) => some ⟨.slice (some ⟨n, 0, none⟩) len len, (n, .cells cs e) :: H, [], ds⟩
      | none => none
    | none => none
  | .load t x => match ev x with
    | some v => mkR2 H ds (evLoad P auto H t v)
    | none => none
  | .store t x y => match ev x, ev y with
    | some a, some v => match evStore P H t a v with
      | some H' => some ⟨undef, H', [], ds⟩
      | none => none
    | _, _ => none
  | .nilCheck x => match ev x with
    | some (.pointer (some ⟨id, off, sp⟩)) => match known P H id with
      | true => some ⟨.pointer (some ⟨id, off, sp⟩), H, [], ds⟩
      | false => none
    | some (.func (.func f) a b) => some ⟨.func (.func f) a b, H, [], ds⟩
    | some (.func (.yield f) a b) => some ⟨.func (.yield f) a b, H, [], ds⟩
    | _ => none
  | .binOp op t x y _ => match ev x, ev y with
    | some a, some b => mkR2 H ds (evBin P auto op t x y a b)
    | _, _ => none
  | .unOp op _ x => match ev x with
    | some a => match pureV a with
      | true => mkR H ds (pureOnly (pureRun P (Op.unary op a)))
      | false => none
    | none => none
  | .convert s d x => match ev x with
    | some a => match pureV a with
      | true => mkR H ds (pureOnly (pureRun P (convert s d a)))
      | false => mkR H ds (evBytes P H s d a)
    | none => none
  | .makeInterface t x => match ev x, concreteT P t with
    | some a, true => some ⟨.iface t a, H, [], ds⟩
    | _, _ => none
  | .makeFunc fn first cap => match evArgs ev first.toList, evArgs ev cap.toList, isYield fn with
    | some a, some b, false => some ⟨.func fn ⟨a⟩ ⟨b⟩, H, [], ds⟩
    | _, _, _ => none
  | .slice t x lo hi none => match ev x, optO ev lo, optO ev hi, P.underlying t with
    | some (.string s), some l, some h, some .string => mkR2 H ds (evSliceS auto s l h)
    | _, _, _, _ => none
  | .fieldAddr s x f => match ev x with
    | some a => mkR H ds (evFieldAddr P H s a f)
    | none => none
  | .field t x f => match ev x with
    | some a => mkR H ds (evField P t a f)
    | none => none
  | .indexAddr t x ix => match ev x, ev ix with
    | some a, some i => mkR2 H ds (evIndexAddr P auto H t a i)
    | _, _ => none
  | .index t x ix => match ev x, ev ix with
    | some a, some i => mkR2 H ds (evIndex P auto t a i)
    | _, _ => none
  | .extract x i => match ev x with
    | some a => mkR H ds (evExtract a i)
    | none => none
  | .range t x => match ev x, P.underlying t with
    | some (.string s), some .string => some ⟨.pointer (some ⟨n, 0, none⟩), (n, .iter s 0) :: H, [], ds⟩
    | _, _ => none
  | .next x true => match ev x with
    | some a => match evNext auto H a ds with
      | some (v, H', l, ds') => some ⟨v, H', l, ds'⟩
      | none => none
    | none => none
  | _ => none

def NextVal (nx : Next) (v : Value) : Prop := nx = .value v ∨ (nx = .skip ∧ v = undef)

theorem evOp_nodefer {P : Program} {auto : Bool} {ev : Operand → Option Value} {o : Oper} {H : Heap} {n : Nat} {ds : List Bool} {r : R} (h : evOp P auto ev o H n ds = some r) : ∀ c, o.op ≠ .defer c := by
  intro c hc
  unfold evOp at h
  rw [hc] at h
  cases h

theorem mkR_some {H : Heap} {ds : List Bool} {x : Option Value} {r : R} (h : mkR H ds x = some r) : x = some r.v ∧ r.h = H ∧ r.obs = [] ∧ r.ds = ds := by
  unfold mkR at h
  split at h
  · cases h; exact ⟨rfl, rfl, rfl, rfl⟩
  · cases h
theorem mkR2_some {H : Heap} {ds : List Bool} {x : Option (Value × List Prop)} {r : R} (h : mkR2 H ds x = some r) : x = some (r.v, r.obs) ∧ r.h = H ∧ r.ds = ds := by
  unfold mkR2 at h
  split at h
  · cases h; exact ⟨rfl, rfl, rfl⟩
  · cases h

theorem rv_undef (ρ : Num) : rv ρ undef = undef := by simp [undef, rv, rvA, rvL]

theorem evOp_sound {P : Program} {auto : Bool} {B : Nat} {M : Nat → Prop} {ρ : Num} {H : Heap} {w : World} (hS : Sim P B M ρ H w) {n : Nat} (hB : B ≤ w.heap.size)
    {ev : Operand → Option Value} {a : Operand → Value} {o : Oper} (hn' : stillOp o.op = false → ρ n = some w.heap.size) (he : ∀ x ∈ o.op.operands.toList, ∀ y, ev x = some y → a x = rv ρ y) {ds : List Bool} {r : R} (h : evOp P auto ev o H n ds = some r) (hl : allP r.obs) :
    ∃ nx w', (execOp a o).run P w = .ok nx w' ∧ NextVal nx (rv ρ r.v) ∧ Sim P B M ρ r.h w' ∧ Keeps B M w w' ∧ (stillOp o.op = true → r.h = H ∧ r.ds = ds ∧ w' = w) := by
  have still : ∀ {v : Value} {s : Sem Value}, execOp a o = (do pure (.value (← s))) → s.run P w = .ok (rv ρ r.v) w → r.h = H → r.ds = ds →
      ∃ nx w', (execOp a o).run P w = .ok nx w' ∧ NextVal nx (rv ρ r.v) ∧ Sim P B M ρ r.h w' ∧ Keeps B M w w' ∧ (stillOp o.op = true → r.h = H ∧ r.ds = ds ∧ w' = w) := by
    intro v s h1 h2 h3 h4
    refine ⟨.value (rv ρ r.v), w, ?_, .inl rfl, by rw [h3]; exact hS, Keeps.refl _ _ _, fun _ => ⟨h3, h4, rfl⟩⟩
    rw [h1, Sem.run_bind, h2]
    rfl
  unfold evOp at h
  split at h
  · rename_i x ho
    obtain ⟨h1, h2, h3, h4⟩ := mkR_some h
    refine ⟨.value (rv ρ r.v), w, ?_, .inl rfl, by rw [h2]; exact hS, Keeps.refl _ _ _, fun _ => ⟨h2, h4, rfl⟩⟩
    simp only [execOp, ho]
    rw [he x (by simp [ho, Op.operands]) _ h1]
    rfl
  · rename_i x ho
    obtain ⟨h1, h2, h3, h4⟩ := mkR_some h
    refine ⟨.value (rv ρ r.v), w, ?_, .inl rfl, by rw [h2]; exact hS, Keeps.refl _ _ _, fun _ => ⟨h2, h4, rfl⟩⟩
    simp only [execOp, ho]
    rw [he x (by simp [ho, Op.operands]) _ h1]
    rfl
  · rename_i t ho
    have hn := hn' (by rw [ho]; rfl)
    split at h
    case h_2 => cases h
    rename_i z hz
    cases h
    obtain ⟨hz1, hz2⟩ := zeroV_sound hz
    have hs := newVar_sound hS hn hB t z
    rw [rv_pure ρ z hz2] at hs
    refine ⟨.value (.pointer (some ⟨w.heap.size, 0, none⟩)), _, ?_, .inl (by simp [rv, rAddr, hn]), hs, Keeps.of_below ((Below.refl _ _).alloc (Nat.le_refl _) _) hB, fun hst => by simp [ho, stillOp] at hst⟩
    simp only [execOp, ho, Instr.alloc, Sem.run_bind, hz1, Result.andThen_ok, run_newVar', Sem.run_pure]
  · rename_i t x ho
    have hn := hn' (by rw [ho]; rfl)
    split at h
    case h_2 => cases h
    rename_i v hv
    cases h
    have hs := newVar_sound hS hn hB t v
    refine ⟨.value (.pointer (some ⟨w.heap.size, 0, none⟩)), _, ?_, .inl (by simp [rv, rAddr, hn]), hs, Keeps.of_below ((Below.refl _ _).alloc (Nat.le_refl _) _) hB, fun hst => by simp [ho, stillOp] at hst⟩
    simp only [execOp, ho, Instr.box, Sem.run_bind, run_newVar', Result.andThen_ok, Sem.run_pure]
    rw [he x (by simp [ho, Op.operands]) _ hv]
  · rename_i t ps ho
    split at h
    case h_2 => cases h
    rename_i l hp
    obtain ⟨h1, h2, h3, h4⟩ := mkR_some h
    have hps := evParts_sound (a := a) (ρ := ρ) ps.toList l (fun q hq => he q.2 (by simp only [ho, Op.operands]; exact List.mem_map.2 ⟨q, hq, rfl⟩)) hp
    have hb := evBuild_sound h1 ρ w
    have hpe : (ps.map fun p : Nat × Operand => (p.1, a p.2)) = (l.map fun p => (p.1, rv ρ p.2)).toArray := by
      rw [← hps]
      apply Array.ext'
      simp
    refine still (v := r.v) (s := Instr.build t (ps.map fun p : Nat × Operand => (p.1, a p.2))) (by simp only [execOp, ho]) ?_ h2 h4
    rw [hpe]
    exact hb
  · rename_i t len ps ho
    have hn := hn' (by rw [ho]; rfl)
    split at h
    case h_2 => cases h
    rename_i l hp
    split at h
    case h_2 => cases h
    rename_i e cs hbs
    cases h
    have hps := evParts_sound (a := a) (ρ := ρ) ps.toList l (fun q hq => he q.2 (by simp only [ho, Op.operands]; exact List.mem_map.2 ⟨q, hq, rfl⟩)) hp
    have hb := evBuildSlice_sound hbs ρ w
    have hpe : (ps.map fun p : Nat × Operand => (p.1, a p.2)) = (l.map fun p => (p.1, rv ρ p.2)).toArray := by
      rw [← hps]
      apply Array.ext'
      simp
    have hs : Sim P B M ρ ((n, .cells cs e) :: H) (w.alloc (.cells (rvL ρ cs).toArray e)) :=
      hS.new hn ⟨w.heap.size, rfl, heap_alloc_new _ _, .inl hB⟩
    refine ⟨.value (.slice (some ⟨w.heap.size, 0, none⟩) len len), _, ?_, .inl (by simp [rv, rSl, rAddr, hn]), hs, Keeps.of_below ((Below.refl _ _).alloc (Nat.le_refl _) _) hB, fun hst => by simp [ho, stillOp] at hst⟩
    simp only [execOp, ho, Sem.run_bind]
    rw [hpe, hb]
    rfl
  · rename_i t x ho
    split at h
    case h_2 => cases h
    rename_i v hv
    obtain ⟨h1, h2, h3⟩ := mkR2_some h
    refine still (v := r.v) (s := Instr.loadAt t (a x)) (by simp only [execOp, ho]) ?_ h2 h3
    rw [he x (by simp [ho, Op.operands]) _ hv]
    exact evLoad_sound hS h1 hl
  · rename_i t x y ho
    split at h
    case h_2 => cases h
    rename_i p v hp hv
    split at h
    case h_2 => cases h
    rename_i H' hst
    cases h
    obtain ⟨w', h1, h2, h3, _⟩ := evStore_sound hS hst
    refine ⟨.skip, w', ?_, .inr ⟨rfl, rv_undef ρ⟩, h2, h3, fun hst => by simp [ho, stillOp] at hst⟩
    simp only [execOp, ho, Sem.run_bind]
    rw [he x (by simp [ho, Op.operands]) _ hp, he y (by simp [ho, Op.operands]) _ hv, h1]
    rfl
  · rename_i x ho
    split at h
    · rename_i id off sp hv
      split at h
      case h_2 => cases h
      rename_i hk
      cases h
      obtain ⟨b, hb⟩ := known_sound hS hk
      refine ⟨.value (rv ρ (.pointer (some ⟨id, off, sp⟩))), w, ?_, .inl rfl, hS, Keeps.refl _ _ _, fun _ => ⟨rfl, rfl, rfl⟩⟩
      simp only [execOp, ho]
      rw [he x (by simp [ho, Op.operands]) _ hv]
      simp only [rv, rAddr, hb, Option.map_some]
      rfl
    · rename_i f c d hv
      cases h
      refine ⟨.value (rv ρ (.func (.func f) c d)), w, ?_, .inl rfl, hS, Keeps.refl _ _ _, fun _ => ⟨rfl, rfl, rfl⟩⟩
      simp only [execOp, ho]
      rw [he x (by simp [ho, Op.operands]) _ hv]
      simp only [rv, rFn]
      rfl
    · rename_i f c d hv
      cases h
      refine ⟨.value (rv ρ (.func (.yield f) c d)), w, ?_, .inl rfl, hS, Keeps.refl _ _ _, fun _ => ⟨rfl, rfl, rfl⟩⟩
      simp only [execOp, ho]
      rw [he x (by simp [ho, Op.operands]) _ hv]
      simp only [rv, rFn]
      rfl
    · cases h
  · rename_i op t x y yt ho
    split at h
    case h_2 => cases h
    rename_i u v hu hv
    obtain ⟨h1, h2, h3⟩ := mkR2_some h
    refine still (v := r.v) (s := do eqGuard op t x y (a x) (a y); binOp op t (a x) (a y)) (by simp only [execOp, ho]) ?_ h2 h3
    rw [he x (by simp [ho, Op.operands]) _ hu, he y (by simp [ho, Op.operands]) _ hv]
    exact evBin_sound h1 hl ρ w
  · rename_i op t x ho
    split at h
    case h_2 => cases h
    rename_i u hu
    split at h
    case h_2 => cases h
    rename_i hp
    obtain ⟨h1, h2, h3, h4⟩ := mkR_some h
    refine still (v := r.v) (s := Op.unary op (a x)) (by simp only [execOp, ho]) ?_ h2 h4
    rw [he x (by simp [ho, Op.operands]) _ hu, rv_pure ρ _ hp]
    exact pureOnly_sound h1 ρ w
  · rename_i s d x ho
    split at h
    case h_2 => cases h
    rename_i u hu
    split at h
    · rename_i hp
      obtain ⟨h1, h2, h3, h4⟩ := mkR_some h
      refine still (v := r.v) (s := convert s d (a x)) (by simp only [execOp, ho]) ?_ h2 h4
      rw [he x (by simp [ho, Op.operands]) _ hu, rv_pure ρ _ hp]
      exact pureOnly_sound h1 ρ w
    · obtain ⟨h1, h2, h3, h4⟩ := mkR_some h
      refine still (v := r.v) (s := convert s d (a x)) (by simp only [execOp, ho]) ?_ h2 h4
      rw [he x (by simp [ho, Op.operands]) _ hu]
      exact evBytes_sound hS h1
  · rename_i t x ho
    split at h
    case h_2 => cases h
    rename_i u hu hc
    cases h
    refine still (v := u) (s := Instr.makeInterface t (a x)) (by simp only [execOp, ho]) ?_ rfl rfl
    rw [he x (by simp [ho, Op.operands]) _ hu]
    unfold concreteT at hc
    split at hc
    · cases hc
    · cases hc
    · rename_i d hni hd
      simp only [Instr.makeInterface, Sem.run_bind, run_underlying hd, Result.andThen_ok, rv]
      cases d <;> first | (exact absurd rfl (hni _)) | rfl
  · rename_i fn first cap ho
    split at h
    case h_2 => cases h
    rename_i l1 l2 h1 h2 h3
    cases h
    have e1 := evArgs_sound (a := a) (ρ := ρ) first.toList l1 (fun q hq => he q (by simp only [ho, Op.operands, Array.toList_append]; exact List.mem_append_left _ hq)) h1
    have e2 := evArgs_sound (a := a) (ρ := ρ) cap.toList l2 (fun q hq => he q (by simp only [ho, Op.operands, Array.toList_append]; exact List.mem_append_right _ hq)) h2
    refine still (v := .nilIface) (s := Instr.makeFunc fn (first.map a) (cap.map a)) (by simp only [execOp, ho]) ?_ rfl rfl
    have f1 : first.map a = ⟨rvL ρ l1⟩ := by apply Array.ext'; simpa using e1
    have f2 : cap.map a = ⟨rvL ρ l2⟩ := by apply Array.ext'; simpa using e2
    rw [f1, f2]
    simp [Instr.makeFunc, rv, rvA, rFn_plain ρ fn h3]
  · rename_i t x lo hi ho
    split at h
    case h_2 => cases h
    rename_i s l hh hv hlo hhi hu
    obtain ⟨h1, h2, h3⟩ := mkR2_some h
    have memo : ∀ (z : Operand), (some z = lo ∨ some z = hi) → z ∈ o.op.operands.toList := by
      intro z hz
      simp only [ho, Op.operands]
      rcases hz with hz | hz <;> (rw [← hz]; simp)
    have oo : ∀ (z : Option Operand) (r : Option Value), (z = lo ∨ z = hi) → optO ev z = some r → z.map a = r.map (rv ρ) := by
      intro z r hz hr
      cases z with
      | none => simp only [optO] at hr; cases hr; rfl
      | some z =>
        simp only [optO] at hr
        split at hr
        · rename_i v hv; cases hr; simp [he z (memo z hz) v hv]
        · cases hr
    refine still (v := r.v) (s := Instr.sliceAt t (a x) (lo.map a) (hi.map a) none) (by simp only [execOp, ho, Option.map_none]) ?_ h2 h3
    rw [he x (by simp [ho, Op.operands]) _ hv, oo lo l (.inl rfl) hlo, oo hi hh (.inr rfl) hhi]
    simp only [rv]
    exact evSliceS_sound hu h1 hl ρ w
  · rename_i s x f ho
    split at h
    case h_2 => cases h
    rename_i u hu
    obtain ⟨h1, h2, h3, h4⟩ := mkR_some h
    refine still (v := r.v) (s := Instr.fieldAt s (a x) f) (by simp only [execOp, ho]) ?_ h2 h4
    rw [he x (by simp [ho, Op.operands]) _ hu]
    exact evFieldAddr_sound hS h1
  · rename_i t x f ho
    split at h
    case h_2 => cases h
    rename_i u hu
    obtain ⟨h1, h2, h3, h4⟩ := mkR_some h
    refine still (v := r.v) (s := Instr.field t (a x) f) (by simp only [execOp, ho]) ?_ h2 h4
    rw [he x (by simp [ho, Op.operands]) _ hu]
    exact evField_sound h1 ρ w
  · rename_i t x ix ho
    split at h
    case h_2 => cases h
    rename_i u v hu hv
    obtain ⟨h1, h2, h3⟩ := mkR2_some h
    refine still (v := r.v) (s := Instr.indexAt t (a x) (a ix)) (by simp only [execOp, ho]) ?_ h2 h3
    rw [he x (by simp [ho, Op.operands]) _ hu, he ix (by simp [ho, Op.operands]) _ hv]
    exact evIndexAddr_sound hS h1 hl
  · rename_i t x ix ho
    split at h
    case h_2 => cases h
    rename_i u v hu hv
    obtain ⟨h1, h2, h3⟩ := mkR2_some h
    refine still (v := r.v) (s := Instr.index t (a x) (a ix)) (by simp only [execOp, ho]) ?_ h2 h3
    rw [he x (by simp [ho, Op.operands]) _ hu, he ix (by simp [ho, Op.operands]) _ hv]
    exact evIndex_sound h1 hl ρ w
  · rename_i x i ho
    split at h
    case h_2 => cases h
    rename_i u hu
    obtain ⟨h1, h2, h3, h4⟩ := mkR_some h
    refine still (v := r.v) (s := Instr.extract (a x) i) (by simp only [execOp, ho]) ?_ h2 h4
    rw [he x (by simp [ho, Op.operands]) _ hu]
    exact evExtract_sound h1 ρ w
  · rename_i t x ho
    have hn := hn' (by rw [ho]; rfl)
    split at h
    case h_2 => cases h
    rename_i s hv hu
    cases h
    have hs : Sim P B M ρ ((n, .iter s 0) :: H) (w.alloc (.stringIter s 0)) :=
      hS.new hn ⟨w.heap.size, rfl, heap_alloc_new _ _, .inl hB⟩
    refine ⟨.value (.pointer (some ⟨w.heap.size, 0, none⟩)), _, ?_, .inl (by simp [rv, rAddr, hn]), hs, Keeps.of_below ((Below.refl _ _).alloc (Nat.le_refl _) _) hB, fun hst => by simp [ho, stillOp] at hst⟩
    simp only [execOp, ho, Sem.run_bind]
    rw [he x (by simp [ho, Op.operands]) _ hv]
    simp only [rv, run_range_string w t s hu]
    rfl
  · rename_i x ho
    split at h
    case h_2 => cases h
    rename_i u hu
    split at h
    case h_2 => cases h
    rename_i v H' l ds' hnx
    cases h
    obtain ⟨w', h1, h2, h3, _⟩ := evNext_sound (ty := o.type) hS hnx hl
    refine ⟨.value (rv ρ v), w', ?_, .inl rfl, h2, h3, fun hst => by simp [ho, stillOp] at hst⟩
    simp only [execOp, ho, Sem.run_bind]
    rw [he x (by simp [ho, Op.operands]) _ hu, h1]
    rfl
  · cases h

end Go.Proofs.YthclpocignpfhaaDoor.Ev
