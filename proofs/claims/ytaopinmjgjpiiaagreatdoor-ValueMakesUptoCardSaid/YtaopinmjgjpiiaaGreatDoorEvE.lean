/-
  The evaluator, part E: one operation of a region.
-/
import Derived.Test.YtaopinmjgjpiiaaGreatDoorEvD
import Derived.Orders
import Derived.OrdersIn
import Derived.LoopNIn
import Derived.RangeFuncRecord
import Derived.RangeFuncCalls
import Derived.Shelf.Abstract
import Derived.Laws.MakeOwn
import Derived.Lib.Builder
namespace Go.Proofs.YtaopinmjgjpiiaaGreatDoor.Ev
open Go Go.RowKit Go.Shelf
noncomputable section

/-- What is known of a temporary: nothing; a value; a value, where some tests came out so (else nothing was laid); a test's outcome that has a key. -/
inductive TV where
  | unk
  | v (x : Value)
  | sp (l : List (Nat × Bool)) (x : Value)
  | key (j : Nat) (l : List (Nat × Bool)) (b : Bool)

def getT (ts : List TV) (t : Nat) : TV := match nthF ts t with
  | some x => x
  | none => .unk

theorem getT_def (ts : List TV) (t : Nat) : getT ts t = match ts[t]? with
  | some x => x
  | none => .unk := by
  unfold getT
  rw [nthF_eq]

def beqB (a b : Bool) : Bool := match a, b with
  | true, true => true
  | false, false => true
  | _, _ => false

def memC (p : Nat × Bool) : List (Nat × Bool) → Bool
  | [] => false
  | q :: r => (Nat.beq p.1 q.1 && beqB p.2 q.2) || memC p r

def subC : List (Nat × Bool) → List (Nat × Bool) → Bool
  | [], _ => true
  | p :: r, c => memC p c && subC r c

def rd (c : List (Nat × Bool)) : TV → Option Value
  | .unk => none
  | .v x => some x
  | .sp l x => match subC l c with
    | true => some x
    | false => none
  | .key _ l b => match subC l c with
    | true => some (.bool b)
    | false => none

def evo (ts : List TV) (c : List (Nat × Bool)) : Operand → Option Value
  | .tmp t => rd c (getT ts t)
  | .const v => match pureV v with
    | true => some v
    | false => none
  | .global g => some (.pointer (some ⟨g, 0, none⟩))
  | .func f => some (.func (.func f) #[] #[])

/-- The tests came out so. -/
def V (β : Nat → Bool) (l : List (Nat × Bool)) : Prop := ∀ p ∈ l, β p.1 = p.2

def TRel (ρ : Num) (β : Nat → Bool) : TV → Value → Prop
  | .unk, _ => True
  | .v x, r => r = rv ρ x
  | .sp l x, r => (V β l → r = rv ρ x) ∧ (¬ V β l → r = undef)
  | .key j l b, r => β j = b ∧ (V β l → r = .bool b) ∧ (¬ V β l → r = undef)

theorem beqB_eq {a b : Bool} (h : beqB a b = true) : a = b := by cases a <;> cases b <;> simp_all [beqB]

theorem memC_sound {p : Nat × Bool} : ∀ {c : List (Nat × Bool)}, memC p c = true → p ∈ c
  | [], h => by simp [memC] at h
  | q :: r, h => by
    simp only [memC, Bool.or_eq_true, Bool.and_eq_true] at h
    rcases h with ⟨h1, h2⟩ | h
    · have e : p = q := Prod.ext (Nat.eq_of_beq_eq_true h1) (beqB_eq h2)
      rw [e]; exact List.mem_cons_self
    · exact List.mem_cons_of_mem _ (memC_sound h)

theorem subC_sound {β : Nat → Bool} {c : List (Nat × Bool)} : ∀ {l : List (Nat × Bool)}, subC l c = true → V β c → V β l
  | [], _, _ => fun p hp => by cases hp
  | q :: r, h, hc => by
    simp only [subC, Bool.and_eq_true] at h
    intro p hp
    rcases List.mem_cons.1 hp with rfl | hp
    · exact hc _ (memC_sound h.1)
    · exact subC_sound h.2 hc p hp

theorem rd_sound {ρ : Num} {β : Nat → Bool} {c : List (Nat × Bool)} {x : TV} {v r : Value} (h : rd c x = some v) (hc : V β c) (hr : TRel ρ β x r) : r = rv ρ v := by
  cases x with
  | unk => simp [rd] at h
  | v y => simp only [rd] at h; cases h; exact hr
  | sp l y =>
    simp only [rd] at h
    split at h
    · rename_i hs; cases h; exact hr.1 (subC_sound hs hc)
    · cases h
  | key j l b =>
    simp only [rd] at h
    split at h
    · rename_i hs; cases h; simp only [rv]; exact hr.2.1 (subC_sound hs hc)
    · cases h

def Agree (n : Nat) (ρ ρ' : Num) : Prop := ∀ i, i < n → ρ' i = ρ i
theorem Agree.refl (n : Nat) (ρ : Num) : Agree n ρ ρ := fun _ _ => rfl
theorem Agree.trans {n m : Nat} {a b c : Num} (h : Agree n a b) (k : Agree m b c) (hnm : n ≤ m) : Agree n a c := fun i hi => (k i (by omega)).trans (h i hi)

structure CR where
  v : Value
  h : Heap
  n : Nat
  obs : List Prop
  ds : List Bool

/-- What is known of the world at all times: it hangs on the package-level variables alone. -/
structure Inv (P : Program) where
  I : World → Prop
  st : ∀ w w' : World, (∀ k, k < P.globals.size → w'.heap[k]? = w.heap[k]?) → w.heap.size ≤ w'.heap.size → I w → I w'
  room : ∀ w, I w → P.globals.size ≤ w.heap.size
  /-- Variables that are never written. -/
  tabs : Heap
  tabsOk : ∀ (w : World) (ρ : Num) (B : Nat) (M : Nat → Prop), I w → (∀ g, g < P.globals.size → ρ g = some g) → Sim P B M ρ tabs w
  tabsRo : ∀ i o, tabs.get i = some o → o.rw = false

/-- A thing to be done at a function's end: a loop's mark, or a call of a function that does nothing unless there is a panic. -/
inductive Mk where
  | mark (i : Nat)
  | call (f : FuncId) (cap args : List Value)

/-- What is known of an activation: temporaries, memory, the next number, tests to come, what is left open, loops passed; the round it is (the loop's number), its marks. -/
structure St where
  tmps : List TV
  heap : Heap
  nid : Nat
  ds : List Bool
  obs : List Prop
  lp : Nat
  rd : Option Nat
  mks : List Mk
  bs : Nat

inductive AX where
  | normal
  | exit (id : Nat)
  | ret

def AX.toExit : AX → Exit
  | .normal => .normal
  | .exit id => .exit id
  | .ret => .ret

structure Cx where
  P : Program
  J : Inv P
  auto : Bool
  pc : FuncId → List Value → Option (Value × List Prop)
  cl : FuncId → List Value → Heap → Nat → List Bool → Option CR
  xt : FuncId → List Value → Heap → Nat → Option CR
  rd : Code → St → Option (AX × St)

structure Par (P : Program) (B : Nat) (M : Nat → Prop) : Prop where
  glo : P.globals.size ≤ B
  free : ∀ k, k < P.globals.size → ¬ M k

theorem Inv.keeps {P : Program} (J : Inv P) {B : Nat} {M : Nat → Prop} (hp : Par P B M) {w w' : World} (h : Keeps B M w w') (hi : J.I w) : J.I w' :=
  J.st w w' (fun k hk => h.block k (Nat.lt_of_lt_of_le hk hp.glo) (hp.free k hk)) h.size hi

/-- A call that names no memory: of a function with a body, or of one that the machine does by itself. -/
def Pure (P : Program) (J : Inv P) (f : FuncId) (args : List Value) (v : Value) : Prop :=
  pureL args = true ∧ pureV v = true ∧ ((Enters P f ∧ ∀ w, J.I w → Calls P f ⟨args⟩ w fun e w' => e = .returned v ∧ Below w.heap.size w w') ∨ ∀ w, J.I w → (callFunc f ⟨args⟩).run P w = .ok (.value v) w)

/-- Contracts that leave memory alone. -/
def PcOk (P : Program) (J : Inv P) (pc : FuncId → List Value → Option (Value × List Prop)) : Prop :=
  ∀ f args v l, pc f args = some (v, l) → allP l → Pure P J f args v

def ClOk (P : Program) (J : Inv P) (cl : FuncId → List Value → Heap → Nat → List Bool → Option CR) : Prop :=
  ∀ f args H n ds r, cl f args H n ds = some r → allP r.obs → n ≤ r.n ∧ Enters P f ∧ ∀ (B : Nat) (M : Nat → Prop) (ρ : Num) (w : World) (vs : List Value), Par P B M → B ≤ w.heap.size → J.I w →
    (∀ ρ', Agree n ρ ρ' → Sim P B M ρ' H w ∧ vs = rvL ρ' args) →
    Calls P f ⟨vs⟩ w fun e w' => ∃ ρ1 v, Agree n ρ ρ1 ∧ e = .returned v ∧ Keeps B M w w' ∧ ∀ ρ', Agree r.n ρ1 ρ' → v = rv ρ' r.v ∧ Sim P B M ρ' r.h w'

/-- Functions that the machine does by itself, over memory. -/
def XtOk (P : Program) (J : Inv P) (xt : FuncId → List Value → Heap → Nat → Option CR) : Prop :=
  ∀ f args H n r, xt f args H n = some r → allP r.obs → n ≤ r.n ∧ ∀ (B : Nat) (M : Nat → Prop) (ρ : Num) (w : World) (vs : List Value), Par P B M → B ≤ w.heap.size → J.I w →
    (∀ ρ', Agree n ρ ρ' → Sim P B M ρ' H w ∧ vs = rvL ρ' args) →
    ∃ ρ1 v w', Agree n ρ ρ1 ∧ (callFunc f ⟨vs⟩).run P w = .ok (.value v) w' ∧ Keeps B M w w' ∧ ∀ ρ', Agree r.n ρ1 ρ' → v = rv ρ' r.v ∧ Sim P B M ρ' r.h w'

def Cx.call (X : Cx) (f : FuncId) (args : List Value) (H : Heap) (n : Nat) (ds : List Bool) : Option CR :=
  match X.xt f args H n with
  | some ⟨v, h, n', ob, _⟩ => some ⟨v, h, n', ob, ds⟩
  | none => X.cl f args H n ds

/-- A call, of either kind. -/
def Does (P : Program) (f : FuncId) (vs : List Value) (w : World) (R : Ending → World → Prop) : Prop :=
  (Enters P f ∧ Calls P f ⟨vs⟩ w R) ∨ ∃ v w', (callFunc f ⟨vs⟩).run P w = .ok (.value v) w' ∧ R (.returned v) w'

/-- Whence the activation began: its world, the numbers that were given out, its deferred calls. -/
structure Bas where
  w : World
  n : Nat
  ρ : Num
  dfs : List Deferred

def plainT : TV → Bool
  | .unk => true
  | .v _ => true
  | _ => false

/-- The fence: none, but for the round. -/
def Fl (rb : Option Nat) : Fence := { Fence.wide with round := rb }

def mkD (ρ : Num) : Mk → Deferred
  | .mark i => ⟨.collected ((ρ i).getD 0), #[]⟩
  | .call f cap args => ⟨.fn (.func f) ⟨rvL ρ cap⟩, ⟨rvL ρ args⟩⟩

structure FR (ρ : Num) (rb : Option Nat) (s : St) (a : Act) : Prop where
  defers : a.defers = s.mks.map (mkD ρ)
  round : rb = s.rd.bind ρ

/-- A frame and a world as the state says, between regions. -/
structure Rep (P : Program) (J : Inv P) (B : Nat) (M : Nat → Prop) (w0 : Bas) (rb : Option Nat) (s : St) (a : Act) (w : World) : Prop where
  low : w0.n = s.bs
  plain : ∀ t, plainT (getT s.tmps t) = true
  size : a.tmps.size = s.tmps.length
  base : B ≤ w.heap.size
  inv : J.I w
  keeps : Keeps B M w0.w w
  rep : ∃ ρ, (w0.n ≤ s.nid ∧ Agree w0.n w0.ρ ρ) ∧ ∀ ρ', Agree s.nid ρ ρ' → Sim P B M ρ' s.heap w ∧ FR ρ' rb s a ∧ ∀ t x, getT s.tmps t = .v x → a.tmps.getD t undef = rv ρ' x

/-- Code that is walked within a round. -/
def RdOk (P : Program) (J : Inv P) (rd : Code → St → Option (AX × St)) : Prop :=
  ∀ c s x s', rd c s = some (x, s') → allP s'.obs → allP s.obs ∧ ∀ (B : Nat) (M : Nat → Prop) (w0 : Bas) (rb : Option Nat) (a : Act) (w : World), Par P B M → Rep P J B M w0 rb s a w →
    ∀ Q : Exit → Act → World → Prop, (∀ a' w', Rep P J B M w0 rb s' a' w' → Q x.toExit a' w') → c.wpIn (Fl rb) 0 P Q a w

structure CxOk (X : Cx) (J : Inv X.P) : Prop where
  pc : PcOk X.P J X.pc
  cl : ClOk X.P J X.cl
  xt : XtOk X.P J X.xt
  rd : RdOk X.P J X.rd
  tabs : ∀ (w : World) (ρ : Num) (B : Nat) (M : Nat → Prop), J.I w → (∀ g, g < X.P.globals.size → ρ g = some g) → Sim X.P B M ρ X.J.tabs w
  ro : ∀ i o, X.J.tabs.get i = some o → o.rw = false

theorem callsIn_Fl {rb : Option Nat} {n : Nat} {P : Program} {f : FuncId} {args : Array Value} {w : World} {R : Ending → World → Prop} (h : Calls P f args w R) : CallsIn (Fl rb) n P f args w R := by
  cases rb with
  | none => exact callsIn_wide.2 h
  | some l => exact CallsIn.inRound l (callsIn_wide.2 h)

theorem about_Fl {rb : Option Nat} {P : Program} {o : Oper} {w : World} {ρ : Operand → Value} : ∀ f, o.about P w ρ = some f → (Fl rb).fn f := fun _ _ => trivial

theorem wpIn_Fl {rb : Option Nat} {P : Program} {o : Oper} {a : Act} {w : World} {K : Act → World → Prop} {Q : Exit → Act → World → Prop} (hnd : ∀ c, o.op ≠ .defer c)
    (h : o.uponIn (Fl rb) 0 P a K Q ((execOp a.eval o).run P w)) : o.wpIn (Fl rb) 0 P a w K Q :=
  ⟨about_Fl, by rw [Oper.semAt_eq _ _ _ hnd]; exact h⟩

theorem call_sound {X : Cx} {J : Inv X.P} (hX : CxOk X J) {f : FuncId} {args : List Value} {H : Heap} {n : Nat} {ds : List Bool} {r : CR} (h : X.call f args H n ds = some r) (hl : allP r.obs) :
    n ≤ r.n ∧ ∀ (B : Nat) (M : Nat → Prop) (ρ : Num) (w : World) (vs : List Value), Par X.P B M → B ≤ w.heap.size → J.I w → (∀ ρ', Agree n ρ ρ' → Sim X.P B M ρ' H w ∧ vs = rvL ρ' args) →
    Does X.P f vs w fun e w' => ∃ ρ1 v, Agree n ρ ρ1 ∧ e = .returned v ∧ Keeps B M w w' ∧ ∀ ρ', Agree r.n ρ1 ρ' → v = rv ρ' r.v ∧ Sim X.P B M ρ' r.h w' := by
  unfold Cx.call at h
  split at h
  · rename_i v0 h0 n' ob ds' hx
    cases h
    obtain ⟨h1, h2⟩ := hX.xt _ _ _ _ _ hx hl
    refine ⟨h1, fun B M ρ w vs hp hB hI hS => ?_⟩
    obtain ⟨ρ1, v, w', q1, q2, q3, q4⟩ := h2 B M ρ w vs hp hB hI hS
    exact .inr ⟨v, w', q2, ρ1, v, q1, rfl, q3, q4⟩
  · obtain ⟨h1, h2, h3⟩ := hX.cl _ _ _ _ _ _ h hl
    exact ⟨h1, fun B M ρ w vs hp hB hI hS => .inl ⟨h2, h3 B M ρ w vs hp hB hI hS⟩⟩

theorem Does.mono {P : Program} {f : FuncId} {vs : List Value} {w : World} {R R' : Ending → World → Prop} (h : Does P f vs w R) (hh : ∀ e w', R e w' → R' e w') : Does P f vs w R' := by
  rcases h with ⟨h1, h2⟩ | ⟨v, w', h1, h2⟩
  · exact .inl ⟨h1, h2.mono hh⟩
  · exact .inr ⟨v, w', h1, hh _ _ h2⟩

theorem wpIn_does {rb : Option Nat} {P : Program} {o : Oper} {a : Act} {w : World} {K : Act → World → Prop} {Q : Exit → Act → World → Prop} {f : FuncId} {vs : List Value} (hnd : ∀ c, o.op ≠ .defer c)
    (hrun : (execOp a.eval o).run P w = (callFunc f ⟨vs⟩).run P w) (hd : Does P f vs w fun e w' => ∃ v, e = .returned v ∧ K (a.put o.dst v) w') : o.wpIn (Fl rb) 0 P a w K Q := by
  refine wpIn_Fl hnd ?_
  rcases hd with ⟨hent, hc⟩ | ⟨v, w', h1, h2⟩
  · rw [hrun, hent _ _, Oper.uponIn_enter]
    refine ⟨fun h => (by cases h), callsIn_Fl (hc.mono fun e w' hh => ?_)⟩
    obtain ⟨v, he, hk⟩ := hh
    subst he
    exact hk
  · rw [hrun, h1, Oper.uponIn_value]
    obtain ⟨v', he, hk⟩ := h2
    cases he
    exact hk

/-- Operations that leave memory alone. -/
def stillOp : Op → Bool
  | .move _ => true
  | .assign _ => true
  | .build _ _ => true
  | .load _ _ => true
  | .nilCheck _ => true
  | .binOp _ _ _ _ _ => true
  | .unOp _ _ _ => true
  | .convert _ _ _ => true
  | .makeInterface _ _ => true
  | .makeFunc _ _ _ => true
  | .slice _ _ _ _ _ => true
  | .fieldAddr _ _ _ => true
  | .field _ _ _ => true
  | .indexAddr _ _ _ => true
  | .index _ _ _ => true
  | .extract _ _ => true
  | .lookup _ _ _ _ => true
  | _ => false

structure R where
  v : Value
  h : Heap
  obs : List Prop
  ds : List Bool

def mkR (H : Heap) (ds : List Bool) (x : Option Value) : Option R :=
  match x with
  | some v => some ⟨v, H, [], ds⟩
  | none => none
def mkR2 (H : Heap) (ds : List Bool) (x : Option (Value × List Prop)) : Option R :=
  match x with
  | some (v, l) => some ⟨v, H, l, ds⟩
  | none => none

def concreteT (P : Program) (t : TypeId) : Bool :=
  match undF P t with
  | none => false
  | some (.interface _) => false
  | some _ => true

def optO (ev : Operand → Option Value) : Option Operand → Option (Option Value)
  | none => some none
  | some x => match ev x with
    | some v => some (some v)
    | none => none

/-- A bound, or what stands for it. -/
def bnd (v : Option Value) (d : Nat) : Option Int :=
  match v with
  | none => some d
  | some (.int _ i) => some i
  | _ => none

theorem bnd_rv (ρ : Num) {v : Option Value} {d : Nat} {i : Int} (h : bnd v d = some i) : v.map (rv ρ) = v := by
  unfold bnd at h
  split at h
  · rfl
  · simp [rv]
  · cases h

theorem pure_cells {v : Value} (h : pureV v = true) : ∀ x ∈ v.cells.toList, pureV x = true := by
  cases v with
  | agg cs =>
    obtain ⟨l⟩ := cs
    simp only [pureV, pureA] at h
    rw [pureL_eq, List.all_eq_true] at h
    exact h
  | _ => intro x hx; simp only [Value.cells, List.mem_cons, List.not_mem_nil, or_false] at hx; subst hx; exact h

/-- A slice's part. -/
def evSliceL (P : Program) (auto : Bool) (H : Heap) (e : TypeId) (a : Option Addr) (n c : Nat) (lo hi : Option Value) : Option (Value × List Prop) :=
  match bnd lo 0, bnd hi n, infF P e with
  | some l, some h, some inf => match a with
    | none => match need auto (0 ≤ l ∧ l ≤ h ∧ h ≤ c) with
      | some ob => some (.slice none (h.toNat - l.toNat) (c - l.toNat), ob)
      | none => none
    | some ⟨id, off, none⟩ => match need auto (0 ≤ l ∧ l ≤ h ∧ h ≤ c) with
      | some ob => match lo with
        | none => some (.slice (some ⟨id, off, none⟩) h.toNat c, ob)
        | some _ => match Nat.beq c l.toNat with
          | true => some (.slice (some ⟨id, off, none⟩) (h.toNat - l.toNat) (c - l.toNat), ob)
          | false => some (.slice (some ⟨id, addO off (mulO l.toNat inf.size), none⟩) (h.toNat - l.toNat) (c - l.toNat), ob)
      | none => none
    | some ⟨id, off, some k⟩ => match auto with
      | true => match off, c, H.get id with
        | 0, 0, some (.row _ sz r k') => match Nat.beq k k' && Nat.blt 0 sz, need true (l = 0 ∧ 0 ≤ h ∧ h ≤ n ∧ h.toNat * sz ≤ r.list.length) with
          | true, some ob => some (.slice (some ⟨id, 0, some k⟩) h.toNat 0, ob)
          | _, _ => none
        | _, _, _ => none
      | false => match H.get id with
        | some (.row _ sz r k') => match Nat.beq k k' && Nat.blt 0 sz && Nat.beq inf.size sz with
          | true => match lo with
            | none => some (.slice (some ⟨id, off, some k⟩) h.toNat c, [off = c * sz ∧ 0 ≤ h ∧ off + h.toNat * sz ≤ r.len])
            | some _ => some (.slice (some ⟨id, addO off (mulO l.toNat sz), some k⟩) (h.toNat - l.toNat) (addO c l.toNat), [off = c * sz ∧ 0 ≤ l ∧ l ≤ h ∧ (l = 0 ∨ l < h) ∧ off + h.toNat * sz ≤ r.len])
          | false => none
        | _ => none
  | _, _, _ => none

theorem evSliceL_bnd {P : Program} {auto : Bool} {H : Heap} {e : TypeId} {a : Option Addr} {n c : Nat} {lo hi : Option Value} {r : Value × List Prop} {ρ : Num} (h : evSliceL P auto H e a n c lo hi = some r) : lo.map (rv ρ) = lo ∧ hi.map (rv ρ) = hi := by
  unfold evSliceL at h
  simp only [infF_eq] at h
  split at h
  case h_2 => cases h
  rename_i hlo hhi _
  exact ⟨bnd_rv ρ hlo, bnd_rv ρ hhi⟩

/-- c times these cells. -/
def madeL (z : List Value) : Nat → List Value
  | 0 => []
  | c + 1 => z ++ madeL z c

def evMake (P : Program) (auto : Bool) (t : TypeId) (l c : Int) : Option (TypeId × List Value × List Prop) :=
  match undF P t with
  | some (.slice e) => match infF P e with
    | some inf => match inf.zero with
      | some z => match pureV z && Nat.beq z.cells.size inf.size, need auto (0 ≤ l ∧ l ≤ c ∧ (inf.bytes : Int) * c ≤ 281474976710656 ∧ c ≤ 9223372036854775807) with
        | true, some ob => some (e, madeL z.cells.toList c.toNat, ob)
        | _, _ => none
      | none => none
    | none => none
  | _ => none

theorem madeL_length (z : List Value) : ∀ c, (madeL z c).length = c * z.length
  | 0 => by simp [madeL]
  | c + 1 => by rw [madeL, List.length_append, madeL_length z c, Nat.add_mul, Nat.one_mul, Nat.add_comm]

theorem madeL_get (z : List Value) : ∀ (c j : Nat), j < c * z.length → (madeL z c)[j]? = z[j % z.length]?
  | 0, j, h => by omega
  | c + 1, j, h => by
    rw [madeL]
    rcases Nat.lt_or_ge j z.length with hj | hj
    · rw [List.getElem?_append_left hj, Nat.mod_eq_of_lt hj]
    · rw [List.getElem?_append_right hj, madeL_get z c _ (by rw [Nat.add_mul, Nat.one_mul] at h; omega), ← Nat.mod_eq_sub_mod hj]

theorem madeL_eq {z : Array Value} {s c : Nat} (hs : z.size = s) : madeCells z (c * s) = (madeL z.toList c).toArray := by
  subst hs
  apply Array.ext'
  apply List.ext_getElem?
  intro j
  simp only [madeCells, Array.toList_map, Array.toList_range, List.getElem?_map]
  rcases Nat.lt_or_ge j (c * z.size) with hj | hj
  · rw [List.getElem?_range hj, madeL_get _ _ _ (by simpa using hj)]
    have hz : 0 < z.size := by
      rcases Nat.eq_zero_or_pos z.size with h | h
      · rw [h, Nat.mul_zero] at hj; omega
      · exact h
    have hm : j % z.size < z.size := Nat.mod_lt _ hz
    simp [hm, getElem!_pos]
  · rw [List.getElem?_eq_none (by simpa using hj), List.getElem?_eq_none (by rw [madeL_length]; simpa using hj)]
    rfl

theorem evMake_sound {P : Program} {auto : Bool} {t e : TypeId} {l c : Int} {cs : List Value} {ob : List Prop} (h : evMake P auto t l c = some (e, cs, ob)) (hl : allP ob) (kl kc : IntKind) (w : World) :
    (Instr.makeSlice t (.int kl l) (.int kc c)).run P w = .ok (.slice (some ⟨w.heap.size, 0, none⟩) l.toNat c.toNat) (w.alloc (.cells cs.toArray e)) ∧ ∀ ρ, rvL ρ cs = cs := by
  unfold evMake at h
  simp only [undF_eq, infF_eq] at h
  split at h
  case h_2 => cases h
  rename_i e' ht
  split at h
  case h_2 => cases h
  rename_i inf hi
  split at h
  case h_2 => cases h
  rename_i z hz
  split at h
  case h_2 => cases h
  rename_i ob' hp hneed
  cases h
  simp only [Bool.and_eq_true, Nat.beq_eq] at hp
  obtain ⟨h1, h2, h3, h4⟩ := need_sound hneed hl
  have := run_make (P := P) w t e inf z ht hi hz kl kc l c h1 h2 h3 h4
  rw [madeL_eq hp.2] at this
  refine ⟨this, fun ρ => rvL_pure ρ _ ?_⟩
  have hz : ∀ x ∈ z.cells.toList, pureV x = true := pure_cells hp.1
  rw [pureL_eq, List.all_eq_true]
  intro x hx
  generalize c.toNat = k at hx
  induction k with
  | zero => cases hx
  | succ k ih =>
    rw [madeL] at hx
    rcases List.mem_append.1 hx with hx | hx
    · exact hz x hx
    · exact ih hx

theorem run_sliceBound' {P : Program} {w : World} {k : IntKind} {i : Int} {y : Nat} {code : BoundsCode} (h : 0 ≤ i ∧ i ≤ y) : (Instr.sliceBound (.int k i) y code).run P w = .ok i.toNat w := by
  simp [Instr.sliceBound, asIntOf, h]

theorem run_sliceBounds {P : Program} {w : World} {len cap : Nat} {lo hi : Option Value} {l h : Int} (hlo : bnd lo 0 = some l) (hhi : bnd hi len = some h) (hb : 0 ≤ l ∧ l ≤ h ∧ h ≤ cap) (hlen : hi = none → True) (isS : Bool) :
    (Instr.sliceBounds isS len cap lo hi none).run P w = .ok (l.toNat, h.toNat, cap) w := by
  unfold Instr.sliceBounds
  cases lo with
  | none =>
    simp only [bnd] at hlo
    cases hlo
    cases hi with
    | none =>
      simp only [bnd] at hhi
      cases hhi
      simp
    | some v =>
      cases v <;> simp only [bnd] at hhi <;> first | (cases hhi; done) | skip
      cases hhi
      simp [run_sliceBound' (P := P) (w := w) (show 0 ≤ h ∧ h ≤ (cap : Int) by omega)]
  | some v0 =>
    cases v0 <;> simp only [bnd] at hlo <;> first | (cases hlo; done) | skip
    cases hlo
    cases hi with
    | none =>
      simp only [bnd] at hhi
      cases hhi
      simp [run_sliceBound' (P := P) (w := w) (show 0 ≤ l ∧ l ≤ (len : Int) by omega)]
    | some v =>
      cases v <;> simp only [bnd] at hhi <;> first | (cases hhi; done) | skip
      cases hhi
      simp [run_sliceBound' (P := P) (w := w) (show 0 ≤ h ∧ h ≤ (cap : Int) by omega), run_sliceBound' (P := P) (w := w) (y := h.toNat) (i := l) (show 0 ≤ l ∧ l ≤ ((h.toNat : Nat) : Int) by omega)]

theorem evSliceL_sound {P : Program} {auto : Bool} {B : Nat} {M : Nat → Prop} {ρ : Num} {H : Heap} {w : World} (hS : Sim P B M ρ H w) {t e : TypeId} {a : Option Addr} {n c : Nat} {lo hi : Option Value} {v : Value} {ob : List Prop}
    (h : evSliceL P auto H e a n c lo hi = some (v, ob)) (hl : allP ob) (ht : P.underlying t = some (.slice e)) : (Instr.sliceAt t (rv ρ (.slice a n c)) lo hi none).run P w = .ok (rv ρ v) w := by
  unfold evSliceL at h
  simp only [infF_eq] at h
  split at h
  case h_2 => cases h
  rename_i l hh inf hlo hhi hinf
  have key : ∀ (a' : Option Addr) (cap : Nat), 0 ≤ l ∧ l ≤ hh ∧ hh ≤ cap → (Instr.sliceAt t (.slice a' n cap) lo hi none).run P w = .ok (.slice (if cap = l.toNat then a' else a'.map (·.add (l.toNat * inf.size))) (hh.toNat - l.toNat) (cap - l.toNat)) w := by
    intro a' cap hb
    simp only [Instr.sliceAt, Instr.slice, Sem.run_bind, run_underlying ht, Result.andThen_ok, run_sliceBounds (P := P) (w := w) hlo hhi hb (fun _ => trivial) true, run_sizeOf' hinf, Sem.run_pure]
  split at h
  · split at h
    case h_2 => cases h
    rename_i ob' hneed
    cases h
    have := key none c (need_sound hneed hl)
    simp only [rv]
    rw [this]
    simp
  · rename_i id off
    split at h
    case h_2 => cases h
    rename_i ob' hneed
    have hb := need_sound (l := ob') hneed (by
      split at h
      · cases h; exact hl
      · split at h <;> (cases h; exact hl))
    have hk := key ((ρ id).map fun b => ⟨b, off, none⟩) c hb
    have hrv : rv ρ (.slice (some ⟨id, off, none⟩) n c) = .slice ((ρ id).map fun b => ⟨b, off, none⟩) n c := by simp only [rv, rSl, rAddr]
    rw [hrv, hk]
    split at h
    · cases h
      simp only [bnd] at hlo
      cases hlo
      simp only [rv, rSl, rAddr]
      cases hq : ρ id with
      | none => simp
      | some b => simp [addr_add]
    split at h
    · rename_i hc
      have hc := Nat.eq_of_beq_eq_true hc
      cases h
      rw [if_pos hc]
      simp only [rv, rSl, rAddr]
    · rename_i hc
      have hc : c ≠ l.toNat := fun e => by rw [e, Nat.beq_refl] at hc; cases hc
      cases h
      rw [if_neg hc]
      cases hq : ρ id with
      | none => simp [rv, rSl, rAddr, hq]
      | some b => simp [rv, rSl, rAddr, hq, addr_add]
  · rename_i id off k
    split at h
    · split at h
      case h_2 => cases h
      rename_i e' sz r k' hget
      split at h
      case h_2 => cases h
      rename_i ob' hck hneed
      simp only [Bool.and_eq_true, Nat.beq_eq, Nat.blt_eq] at hck
      obtain ⟨hkk, hsz⟩ := hck
      subst hkk
      cases h
      obtain ⟨h1, h2, h3, h4⟩ := need_sound hneed hl
      subst h1
      rcases hS.obj id _ hget with ⟨g1, g2⟩ | ⟨b, cap, cur, g1, g2, g3, g4, g5, g6, g7, g8⟩
      · rw [g2] at h4
        have hn0 : hh.toNat = 0 := by
          rcases Nat.eq_zero_or_pos hh.toNat with h0 | h0
          · exact h0
          · have := Nat.mul_le_mul h0 hsz
            simp only [List.length_nil] at h4
            omega
        have hh0 : hh = 0 := by omega
        subst hh0
        have := key none 0 (by omega)
        simp only [rv, rSl, g1]
        rw [this]
        simp
      · have hcap : hh.toNat ≤ cap := Nat.le_of_mul_le_mul_right (Nat.le_trans h4 g7) hsz
        have := key (some ⟨b, 0, none⟩) cap (by omega)
        simp only [rv, rSl, g1, g2, Option.getD_some, Nat.sub_zero]
        rw [this]
        simp [addr_add]
    · split at h
      case h_2 => cases h
      rename_i e' sz r k' hget
      split at h
      case h_2 => cases h
      rename_i hck
      simp only [Bool.and_eq_true, Nat.beq_eq, Nat.blt_eq] at hck
      obtain ⟨⟨hkk, hsz⟩, hsz2⟩ := hck
      subst hkk hsz2
      have hl' : off = c * inf.size ∧ 0 ≤ l ∧ l ≤ hh ∧ (l = 0 ∨ l < hh) ∧ off + hh.toNat * inf.size ≤ r.len := by
        split at h
        · cases h
          obtain ⟨q1, q2, q3⟩ := hl.1
          simp only [bnd] at hlo
          cases hlo
          exact ⟨q1, Int.le_refl _, q2, .inl rfl, q3⟩
        · cases h
          exact hl.1
      have hv : rv ρ v = rv ρ (.slice (some ⟨id, addO off (mulO l.toNat inf.size), some k⟩) (hh.toNat - l.toNat) (addO c l.toNat)) := by
        split at h
        · cases h
          simp only [bnd] at hlo
          cases hlo
          simp
        · cases h
          rfl
      rw [hv]
      clear hv h
      obtain ⟨h1, h2, h3, h4, h5⟩ := hl'
      subst h1
      rw [Row.len_eq] at h5
      rcases hS.obj id _ hget with ⟨g1, g2⟩ | ⟨b, cap, cur, g1, g2, g3, g4, g5, g6, g7, g8⟩
      · rw [g2] at h5
        simp only [List.length_nil] at h5
        have hz1 : c * inf.size = 0 := by omega
        have hz2 : hh.toNat * inf.size = 0 := by omega
        have hc0 : c = 0 := by rcases Nat.mul_eq_zero.1 hz1 with h | h <;> omega
        have hh0 : hh.toNat = 0 := by rcases Nat.mul_eq_zero.1 hz2 with h | h <;> omega
        have hl0 : l.toNat = 0 := by omega
        have := key none 0 (by omega)
        simp only [rv, rSl, g1]
        rw [this, hl0, hh0]
        simp
      · have hcap : c + hh.toNat ≤ cap := by
          have : (c + hh.toNat) * inf.size ≤ cap * inf.size := by rw [Nat.add_mul]; exact Nat.le_trans h5 g7
          exact Nat.le_of_mul_le_mul_right this hsz
        have := key (some ⟨b, c * inf.size, none⟩) (cap - c) (by omega)
        simp only [rv, rSl, g1, g2, Option.getD_some]
        rw [this]
        simp only [addO_eq, mulO_eq, Nat.sub_sub]
        rcases h4 with h4 | h4
        · subst h4
          simp [addr_add]
        · rw [if_neg (by omega)]
          simp [addr_add]

/-- Where all is closed: a row's slice from further on; at its end what is left is empty. -/
def evCut (P : Program) (H : Heap) (e : TypeId) (id off k n c l : Nat) : Option Value :=
  match infF P e, H.get id with
  | some inf, some (.row _ sz r k') => match Nat.beq k k' && Nat.blt 0 sz && Nat.beq inf.size sz && Nat.beq off (c * sz) && Nat.ble (c * sz + n * sz) r.list.length && Nat.blt 0 l && Nat.ble l n with
    | true => match Nat.blt l n with
      | true => some (.slice (some ⟨id, c * sz + l * sz, some k⟩) (n - l) (c + l))
      | false => match Nat.blt k 18446744073709551616 && Nat.blt c 18446744073709551616 && Nat.blt l 18446744073709551616 && Nat.blt sz 18446744073709551616 with
        | true => some (.chan (some (encE id k c l sz)))
        | false => none
    | false => none
  | _, _ => none

theorem evCut_sound {P : Program} {B : Nat} {M : Nat → Prop} {ρ : Num} {H : Heap} {w : World} (hS : Sim P B M ρ H w) {t e : TypeId} {id off k n c l : Nat} {kd : IntKind} {v : Value}
    (h : evCut P H e id off k n c l = some v) (ht : P.underlying t = some (.slice e)) : (Instr.sliceAt t (rv ρ (.slice (some ⟨id, off, some k⟩) n c)) (some (.int kd (l : Int))) none none).run P w = .ok (rv ρ v) w := by
  unfold evCut at h
  simp only [infF_eq] at h
  split at h
  case h_2 => cases h
  rename_i inf _ sz r k' hinf hget
  split at h
  case h_2 => cases h
  rename_i hck
  simp only [Bool.and_eq_true, Nat.beq_eq, Nat.blt_eq, Nat.ble_eq] at hck
  obtain ⟨⟨⟨⟨⟨⟨h1, h2⟩, h3⟩, h4⟩, h5⟩, h6⟩, h7⟩ := hck
  subst h1 h3 h4
  have key : ∀ (a' : Option Addr) (cap : Nat), n ≤ cap → (Instr.sliceAt t (.slice a' n cap) (some (.int kd (l : Int))) none none).run P w = .ok (.slice (if cap = l then a' else a'.map (·.add (l * inf.size))) (n - l) (cap - l)) w := by
    intro a' cap hb
    have hbd : (0 : Int) ≤ (l : Int) ∧ (l : Int) ≤ (n : Int) ∧ (n : Int) ≤ cap := ⟨by omega, by omega, by omega⟩
    have := run_sliceBounds (P := P) (w := w) (lo := some (.int kd (l : Int))) (hi := none) (l := (l : Int)) (h := (n : Int)) (len := n) rfl rfl hbd (fun _ => trivial) true
    simp only [Instr.sliceAt, Instr.slice, Sem.run_bind, run_underlying ht, Result.andThen_ok, this, run_sizeOf' hinf, Sem.run_pure, Int.toNat_natCast]
  rcases hS.obj id _ hget with ⟨g1, g2⟩ | ⟨b, cap, cur, g1, g2, g3, g4, g5, g6, g7, g8⟩
  · rw [g2] at h5
    simp only [List.length_nil] at h5
    have : n * inf.size = 0 := by omega
    rcases Nat.mul_eq_zero.1 this with h | h <;> omega
  · have hcap : c + n ≤ cap := by
      have : (c + n) * inf.size ≤ cap * inf.size := by rw [Nat.add_mul]; exact Nat.le_trans h5 g7
      exact Nat.le_of_mul_le_mul_right this h2
    have hk := key (some ⟨b, c * inf.size, none⟩) (cap - c) (by omega)
    have hr : rv ρ (.slice (some ⟨id, c * inf.size, some k⟩) n c) = .slice (some ⟨b, c * inf.size, none⟩) n (cap - c) := by simp only [rv, rSl, g1, g2, Option.getD_some]
    rw [hr, hk]
    split at h
    · rename_i hlt
      rw [Nat.blt_eq] at hlt
      cases h
      rw [if_neg (by omega)]
      simp only [rv, rSl, g1, g2, Option.getD_some, Nat.sub_sub]
      simp [addr_add]
    · rename_i hlt
      have hln : l = n := by
        have : ¬ l < n := fun hh => by rw [show Nat.blt l n = true by rw [Nat.blt_eq]; exact hh] at hlt; cases hlt
        omega
      split at h
      case h_2 => cases h
      rename_i hb
      simp only [Bool.and_eq_true, Nat.blt_eq] at hb
      obtain ⟨⟨⟨b1, b2⟩, b3⟩, b4⟩ := hb
      cases h
      simp only [rv]
      rw [endE_enc ρ b1 b2 b3 b4]
      unfold endV
      simp only [g1, g2, Option.getD_some, hln, Nat.sub_self]
      by_cases hq : cap - c = n
      · rw [if_pos hq, if_pos hq]
      · rw [if_neg hq, if_neg hq]
        simp [addr_add]

/-- A slice whose capacity is cut off. -/
def evClip (P : Program) (H : Heap) (e : TypeId) (a : Option Addr) (n c h m : Nat) : Option Value :=
  match infF P e with
  | none => none
  | some _ => match a with
    | none => match Nat.ble h m && Nat.ble m c with
      | true => some (.slice none h m)
      | false => none
    | some ⟨id, off, none⟩ => match Nat.ble h m && Nat.ble m c with
      | true => some (.slice (some ⟨id, off, none⟩) h m)
      | false => none
    | some ⟨id, off, some k⟩ => match H.get id with
      | some (.row _ sz r k') => match Nat.beq k k' && Nat.blt 0 sz && Nat.beq off (c * sz) && Nat.beq h n && Nat.beq m n && Nat.ble (c * sz + n * sz) r.list.length with
        | true => some (.slice (some ⟨id, off, none⟩) n n)
        | false => none
      | _ => none

theorem run_clip {P : Program} {t e : TypeId} {inf : TypeInfo} (ht : P.underlying t = some (.slice e)) (hinf : P.info? e = some inf) {kh km : IntKind} {n cap h m : Nat} (h1 : h ≤ m) (h2 : m ≤ cap) (a' : Option Addr) (w : World) :
    (Instr.sliceAt t (.slice a' n cap) none (some (.int kh (h : Int))) (some (.int km (m : Int)))).run P w = .ok (.slice a' h m) w := by
  have b1 := run_sliceBound (P := P) (k := km) (y := cap) (i := (m : Int)) (code := .slice3Acap) (by omega) (by omega) w
  have b2 := run_sliceBound (P := P) (k := kh) (y := m) (i := (h : Int)) (code := .slice3B) (by omega) (by omega) w
  simp only [Int.toNat_natCast] at b1 b2
  simp [Instr.sliceAt, Instr.slice, Sem.run_bind, run_underlying ht, Instr.sliceBounds, b1, b2, run_sizeOf' hinf]
  cases a' with
  | none => simp
  | some a =>
    obtain ⟨b, o, sp⟩ := a
    simp [Addr.add]

theorem evClip_sound {P : Program} {B : Nat} {M : Nat → Prop} {ρ : Num} {H : Heap} {w : World} (hS : Sim P B M ρ H w) {t e : TypeId} {a : Option Addr} {n c h m : Nat} {kh km : IntKind} {v : Value}
    (hv : evClip P H e a n c h m = some v) (ht : P.underlying t = some (.slice e)) : (Instr.sliceAt t (rv ρ (.slice a n c)) none (some (.int kh (h : Int))) (some (.int km (m : Int)))).run P w = .ok (rv ρ v) w := by
  unfold evClip at hv
  simp only [infF_eq] at hv
  split at hv
  case h_1 => cases hv
  rename_i inf hinf
  split at hv
  · split at hv
    case h_2 => cases hv
    rename_i hck
    simp only [Bool.and_eq_true, Nat.ble_eq] at hck
    cases hv
    simp only [rv]
    exact run_clip ht hinf hck.1 hck.2 _ w
  · split at hv
    case h_2 => cases hv
    rename_i hck
    simp only [Bool.and_eq_true, Nat.ble_eq] at hck
    cases hv
    simp only [rv, rSl]
    exact run_clip ht hinf hck.1 hck.2 _ w
  · split at hv
    case h_2 => cases hv
    rename_i sz r k' hget
    split at hv
    case h_2 => cases hv
    rename_i hck
    simp only [Bool.and_eq_true, Nat.beq_eq, Nat.blt_eq, Nat.ble_eq] at hck
    obtain ⟨⟨⟨⟨⟨h1, h2⟩, h3⟩, h4⟩, h5⟩, h6⟩ := hck
    subst h1 h3 h4 h5
    cases hv
    rcases hS.obj _ _ hget with ⟨g1, g2⟩ | ⟨b, cap, cur, g1, g2, g3, g4, g5, g6, g7, g8⟩
    · rw [g2] at h6
      simp only [List.length_nil] at h6
      have hz : m * sz = 0 := by omega
      have hh : m = 0 := by rcases Nat.mul_eq_zero.1 hz with q | q <;> omega
      subst hh
      simp only [rv, rSl, rAddr, g1, Option.map_none]
      exact run_clip (h := 0) (m := 0) ht hinf (Nat.le_refl _) (Nat.le_refl _) _ w
    · have hcap : c + m ≤ cap := by
        have : (c + m) * sz ≤ cap * sz := by rw [Nat.add_mul]; exact Nat.le_trans h6 g7
        exact Nat.le_of_mul_le_mul_right this h2
      simp only [rv, rSl, rAddr, g1, g2, Option.getD_some, Option.map_some]
      exact run_clip ht hinf (Nat.le_refl _) (by omega) _ w

def evSliceC (P : Program) (auto : Bool) (H : Heap) (e : TypeId) (a : Option Addr) (n c : Nat) (lo hi : Option Value) : Option (Value × List Prop) :=
  match evSliceL P auto H e a n c lo hi with
  | some r => some r
  | none => match auto with
    | true => match a, lo, hi with
      | some ⟨id, off, some k⟩, some (.int _ (.ofNat l)), none => match evCut P H e id off k n c l with
        | some v => some (v, [])
        | none => none
      | _, _, _ => none
    | false => none

theorem evSliceC_bnd {P : Program} {auto : Bool} {H : Heap} {e : TypeId} {a : Option Addr} {n c : Nat} {lo hi : Option Value} {r : Value × List Prop} {ρ : Num} (h : evSliceC P auto H e a n c lo hi = some r) : lo.map (rv ρ) = lo ∧ hi.map (rv ρ) = hi := by
  unfold evSliceC at h
  split at h
  · rename_i hq; exact evSliceL_bnd hq
  · split at h
    · split at h
      · simp [rv]
      · cases h
    · cases h

theorem evSliceC_sound {P : Program} {auto : Bool} {B : Nat} {M : Nat → Prop} {ρ : Num} {H : Heap} {w : World} (hS : Sim P B M ρ H w) {t e : TypeId} {a : Option Addr} {n c : Nat} {lo hi : Option Value} {v : Value} {ob : List Prop}
    (h : evSliceC P auto H e a n c lo hi = some (v, ob)) (hl : allP ob) (ht : P.underlying t = some (.slice e)) : (Instr.sliceAt t (rv ρ (.slice a n c)) lo hi none).run P w = .ok (rv ρ v) w := by
  unfold evSliceC at h
  split at h
  · rename_i hq
    cases h
    exact evSliceL_sound hS hq hl ht
  · split at h
    · split at h
      · split at h
        · rename_i hv
          cases h
          exact evCut_sound hS hv ht
        · cases h
      · cases h
    · cases h

/-- An array's part. -/
def evSliceA (P : Program) (auto : Bool) (H : Heap) (n : Nat) (e : TypeId) (id off : Nat) (lo hi : Option Value) : Option (Value × List Prop) :=
  match known P H id with
  | true => match bnd lo 0, bnd hi n, infF P e with
    | some l, some h, some inf => match need auto (0 ≤ l ∧ l ≤ h ∧ h ≤ n) with
      | some ob => match Nat.beq n l.toNat with
        | true => some (.slice (some ⟨id, off, none⟩) (h.toNat - l.toNat) (n - l.toNat), ob)
        | false => some (.slice (some ⟨id, addO off (mulO l.toNat inf.size), none⟩) (h.toNat - l.toNat) (n - l.toNat), ob)
      | none => none
    | _, _, _ => none
  | false => none

theorem evSliceA_bnd {P : Program} {auto : Bool} {H : Heap} {n : Nat} {e : TypeId} {id off : Nat} {lo hi : Option Value} {r : Value × List Prop} {ρ : Num} (h : evSliceA P auto H n e id off lo hi = some r) : lo.map (rv ρ) = lo ∧ hi.map (rv ρ) = hi := by
  unfold evSliceA at h
  simp only [infF_eq] at h
  split at h
  case h_2 => cases h
  split at h
  case h_2 => cases h
  rename_i hlo hhi _
  exact ⟨bnd_rv ρ hlo, bnd_rv ρ hhi⟩

theorem evSliceA_sound {P : Program} {auto : Bool} {B : Nat} {M : Nat → Prop} {ρ : Num} {H : Heap} {w : World} (hS : Sim P B M ρ H w) {t e : TypeId} {n id off : Nat} {lo hi : Option Value} {v : Value} {ob : List Prop}
    (h : evSliceA P auto H n e id off lo hi = some (v, ob)) (hl : allP ob) (ht : P.underlying t = some (.array n e)) : (Instr.sliceAt t (rv ρ (.pointer (some ⟨id, off, none⟩))) lo hi none).run P w = .ok (rv ρ v) w := by
  unfold evSliceA at h
  simp only [infF_eq] at h
  split at h
  case h_2 => cases h
  rename_i hkn
  split at h
  case h_2 => cases h
  rename_i l hh inf hlo hhi hinf
  split at h
  case h_2 => cases h
  rename_i ob' hneed
  have hb := need_sound (l := ob') hneed (by split at h <;> (cases h; exact hl))
  obtain ⟨b, hb1⟩ := known_sound hS hkn
  have hrv : rv ρ (.pointer (some ⟨id, off, none⟩)) = .pointer (some ⟨b, off, none⟩) := by simp [rv, rAddr, hb1]
  have hk : (Instr.sliceAt t (.pointer (some ⟨b, off, none⟩)) lo hi none).run P w = .ok (.slice (some (if n = l.toNat then ⟨b, off, none⟩ else (⟨b, off, none⟩ : Addr).add (l.toNat * inf.size))) (hh.toNat - l.toNat) (n - l.toNat)) w := by
    simp only [Instr.sliceAt, Sem.run_bind, run_underlying ht, Result.andThen_ok, run_sliceBounds (P := P) (w := w) hlo hhi hb (fun _ => trivial) false, run_sizeOf' hinf, Sem.run_pure, Instr.sureAddr, pure_bind]
  rw [hrv, hk]
  split at h
  · rename_i hc
    have hc := Nat.eq_of_beq_eq_true hc
    cases h
    rw [if_pos hc]
    simp only [rv, rSl, rAddr, hb1, Option.map_some]
  · rename_i hc
    have hc : n ≠ l.toNat := fun e => by rw [e, Nat.beq_refl] at hc; cases hc
    cases h
    rw [if_neg hc]
    simp [rv, rSl, rAddr, hb1, addr_add]

/-! Pointers as unsafe.Pointer, and back. -/

def evUns (P : Program) (H : Heap) (s d : TypeId) (x : Value) : Option Value :=
  match x with
  | .pointer (some ⟨id, off, none⟩) => match undF P s, undF P d, H.get id with
    | some (.pointer t), some .unsafePointer, some (.cells cs _) => match infF P t with
      | some i => match Nat.blt 0 i.size && Nat.blt off cs.length with
        | true => some (.pointer (some ⟨id, off, none⟩))
        | false => none
      | none => none
    | some .unsafePointer, some (.pointer u), some (.cells cs ty) => match infF P u with
      | some _ => match liesAt P P.depth ty (cs.length / P.cellsOf ty) off u 1 with
        | true => some (.pointer (some ⟨id, off, none⟩))
        | false => none
      | none => none
    | _, _, _ => none
  | _ => none

theorem evUns_sound {P : Program} {B : Nat} {M : Nat → Prop} {ρ : Num} {H : Heap} {w : World} (hS : Sim P B M ρ H w) {s d : TypeId} {x v : Value} (h : evUns P H s d x = some v) : (convert s d (rv ρ x)).run P w = .ok (rv ρ v) w := by
  unfold evUns at h
  simp only [undF_eq, infF_eq] at h
  split at h
  case h_2 => cases h
  rename_i id off
  split at h
  · rename_i t cs ty hs hd hget
    split at h
    case h_2 => cases h
    rename_i i hi
    split at h
    case h_2 => cases h
    rename_i hc
    simp only [Bool.and_eq_true, Nat.blt_eq] at hc
    cases h
    obtain ⟨b, hb, hw, _⟩ := hS.obj id _ hget
    simp only [rv, rAddr, hb, Option.map_some]
    exact Lib.run_to_unsafe w ⟨b, off, none⟩ hs hd hi (by omega) (e := ty) (cells := (rvL ρ cs).toArray.size) (by simp [World.shape?, hw]) (by simpa [rvL_eq] using hc.2)
  · rename_i u cs ty hs hd hget
    split at h
    case h_2 => cases h
    rename_i i hi
    split at h
    case h_2 => cases h
    rename_i hc
    cases h
    obtain ⟨b, hb, hw, _⟩ := hS.obj id _ hget
    simp only [rv, rAddr, hb, Option.map_some]
    exact Lib.run_from_unsafe w ⟨b, off, none⟩ hs hd hi (e := ty) (cells := (rvL ρ cs).toArray.size) (by simp [World.shape?, hw]) (by simpa [rvL_eq] using hc)
  · cases h

def evConv (P : Program) (H : Heap) (s d : TypeId) (x : Value) : Option Value :=
  match evUns P H s d x with
  | some v => some v
  | none => evBytes P H s d x

theorem evConv_sound {P : Program} {B : Nat} {M : Nat → Prop} {ρ : Num} {H : Heap} {w : World} (hS : Sim P B M ρ H w) {s d : TypeId} {x v : Value} (h : evConv P H s d x = some v) : (convert s d (rv ρ x)).run P w = .ok (rv ρ v) w := by
  unfold evConv at h
  split at h
  · rename_i hu; cases h; exact evUns_sound hS hu
  · exact evBytes_sound hS h

/-- A row of bytes, how many soever, as a text. -/
def evB2s (P : Program) (auto : Bool) (H : Heap) (s d : TypeId) (x : Value) : Option (Value × List Prop) :=
  match auto with
  | true => none
  | false => match x with
    | .slice (some ⟨j, 0, some k⟩) n 0 => match H.get j with
      | some (.row _ sz (.ints .u8 ns) k') => match undF P s, undF P d with
        | some (.slice e), some .string => match undF P e with
          | some (.int .u8) => match Nat.beq sz 1 && Nat.beq k k' with
            | true => some (.string ⟨⟨ns.map fun n => UInt8.ofNat n.toNat⟩⟩, [n = ns.length])
            | false => none
          | _ => none
        | _, _ => none
      | _ => none
    | _ => none

theorem evB2s_sound {P : Program} {auto : Bool} {B : Nat} {M : Nat → Prop} {ρ : Num} {H : Heap} {w : World} (hS : Sim P B M ρ H w) {s d : TypeId} {x v : Value} {l : List Prop} (h : evB2s P auto H s d x = some (v, l)) (hl : allP l) :
    (convert s d (rv ρ x)).run P w = .ok (rv ρ v) w := by
  unfold evB2s at h
  simp only [undF_eq] at h
  split at h
  · cases h
  split at h
  case h_2 => cases h
  rename_i j k n
  split at h
  case h_2 => cases h
  rename_i e' sz ns k' hget
  split at h
  case h_2 => cases h
  rename_i e hs hd
  split at h
  case h_2 => cases h
  rename_i he
  split at h
  case h_2 => cases h
  rename_i hc
  simp only [Bool.and_eq_true, Nat.beq_eq] at hc
  obtain ⟨h1, h2⟩ := hc
  subst h1 h2
  cases h
  obtain rfl := hl.1
  rcases hS.obj j _ hget with ⟨g1, g2⟩ | ⟨b, cap, cur, g1, g2, g3, g4, g5, g6, g7, g8⟩
  · have hn : ns = [] := by simpa [Row.list] using g2
    subst hn
    have : (convert s d (.slice none 0 0)).run P w = .ok (.string .empty) w := by
      unfold convert
      simp [run_underlying hs, run_underlying hd, run_underlying he, Conv.bytesToString]
    simp only [rv, rSl, g1]
    exact this
  · have e1 : rvL ρ (ns.map (Value.int .u8)) = ns.map (Value.int .u8) := rvL_pure _ _ (by rw [pureL_eq]; simp [pureV])
    obtain ⟨fr, q1, _⟩ := g3
    have hc := run_loadCells_list (P := P) w ⟨b, 0, none⟩ (ns.map (Value.int .u8)) (fun i v hi => by
      rw [addr_add]
      simp only [Row.list] at g8
      rw [e1] at g8
      rw [← g8, List.getElem?_take] at hi
      split at hi
      · simp only [Nat.zero_add, World.cell?, q1]
        simpa using hi
      · cases hi)
    rw [List.length_map] at hc
    simp only [rv, rSl, g1, g2, Option.getD_some, Nat.sub_zero]
    rw [run_convert_bytes_string w s d e _ _ _ hs he hd, run_bytesToString w _ _ _ ns hc, foldl_push]
    simp

/-! Maps whose keys are whole numbers or texts. -/

def keyT : TypeDesc → Bool
  | .int _ => true
  | .string => true
  | _ => false

def sameA (d : TypeDesc) (a b : Value) : Option Bool :=
  match d with
  | .int _ => match a, b with
    | .int k x, .int k' y => match decide (k = k') with
      | true => some (x == y)
      | false => none
    | _, _ => none
  | .string => match a, b with
    | .string x, .string y => some (x.data.toList == y.data.toList)
    | _, _ => none
  | _ => none

theorem sameA_sound {d : TypeDesc} {a b : Value} {r : Bool} (h : sameA d a b = some r) (ρ : Num) : keyT d = true ∧ Instr.sameNow d (rv ρ a) (rv ρ b) = some r ∧ rv ρ a = a := by
  unfold sameA at h
  split at h
  · split at h
    · rename_i k x k' y
      split at h
      · rename_i hk
        have hk := of_decide_eq_true hk
        subst hk
        cases h
        refine ⟨rfl, ?_, by simp only [rv]⟩
        simp [rv, Instr.sameNow]
      · cases h
    · cases h
  · split at h
    · cases h
      refine ⟨rfl, ?_, by simp only [rv]⟩
      simp only [rv, Instr.sameNow, Option.some.injEq]
      rename_i x y
      obtain ⟨⟨x⟩⟩ := x
      obtain ⟨⟨y⟩⟩ := y
      show ((⟨x⟩ : Array UInt8) == ⟨y⟩) = (x == y)
      simp
    · cases h
  · cases h

/-- The value under a key. -/
def findA (d : TypeDesc) (k : Value) : List (Value × Value) → Option (Option Value)
  | [] => some none
  | (k', v) :: r => match sameA d k k' with
    | some true => some (some v)
    | some false => findA d k r
    | none => none

theorem findA_sound {d : TypeDesc} {k : Value} {ρ : Num} : ∀ {es : List (Value × Value)} {mes : List MapEntry} {i : Nat} {r : Option Value}, findA d k es = some r → mes.map (fun e => (e.key, e.val)) = es.map (fun p => (rv ρ p.1, rv ρ p.2)) →
    match r with
    | none => Instr.findNow d (rv ρ k) mes i = some none
    | some v => ∃ j, Instr.findNow d (rv ρ k) mes i = some (some (j, rv ρ v))
  | [], mes, i, r, h, he => by
    cases h
    cases mes with
    | nil => rfl
    | cons e mes => simp at he
  | (k', v) :: es, mes, i, r, h, he => by
    cases mes with
    | nil => simp at he
    | cons e mes =>
      simp only [List.map_cons, List.cons.injEq, Prod.mk.injEq] at he
      obtain ⟨⟨e1, e2⟩, e3⟩ := he
      simp only [findA] at h
      split at h
      · rename_i hs
        cases h
        have := (sameA_sound hs ρ).2.1
        exact ⟨i, by simp only [Instr.findNow, e1, this, e2]⟩
      · rename_i hs
        have h1 := (sameA_sound hs ρ).2.1
        have ih := findA_sound (i := i + 1) h e3
        cases r with
        | none => simp only [Instr.findNow, e1, h1]; exact ih
        | some v' => obtain ⟨j, ih⟩ := ih; exact ⟨j, by simp only [Instr.findNow, e1, h1]; exact ih⟩
      · cases h

theorem run_checkKey {P : Program} {t : TypeId} {d : TypeDesc} (hu : P.underlying t = some d) (hd : keyT d = true) (b : Bool) (v : Value) (w : World) : (Instr.checkKey b 10000 t v).run P w = .ok () w := by
  unfold Instr.checkKey
  rw [Sem.run_bind, run_underlying hu]
  cases d <;> first | (cases hd; done) | rfl

theorem gotMap {P : Program} {w : World} {b : Nat} {es : Array MapEntry} {ck : Nat} (hw : w.heap[b]? = some (.map es ck)) : (getObj b).run P w = .ok (.map es ck) w := by simp [getObj, Sem.run, hw]

/-- An entry of a map. -/
def evLookup (P : Program) (H : Heap) (t : TypeId) (m k : Value) (comma : Bool) : Option Value :=
  match m, undF P t with
  | .map (some id), some (.map kt e) => match undF P kt, H.get id with
    | some d, some (.map es) => match findA d k es, sameA d k k with
      | some (some v), some _ => some (match comma with
        | true => .tuple ⟨[v, .bool true]⟩
        | false => v)
      | some none, some _ => match zeroV P e with
        | some z => some (match comma with
          | true => .tuple ⟨[z, .bool false]⟩
          | false => z)
        | none => none
      | _, _ => none
    | _, _ => none
  | _, _ => none

theorem evLookup_sound {P : Program} {B : Nat} {M : Nat → Prop} {ρ : Num} {H : Heap} {w : World} (hS : Sim P B M ρ H w) {t : TypeId} {m k v : Value} {comma : Bool} (h : evLookup P H t m k comma = some v) :
    (Instr.lookup t (rv ρ m) (rv ρ k) comma).run P w = .ok (rv ρ v) w := by
  unfold evLookup at h
  simp only [undF_eq] at h
  split at h
  case h_2 => cases h
  rename_i id kt e ht
  split at h
  case h_2 => cases h
  rename_i d es hd hget
  obtain ⟨b, mes, ck, hb, hw, hes, _⟩ := hS.obj id _ hget
  have main : ∀ (q : Option (Nat × Value)) (x : Value), keyT d = true → Instr.findNow d (rv ρ k) mes.toList 0 = some q →
      (match q with
        | some (_, v) => v = x
        | none => (zeroValue e).run P w = .ok x w) → (Instr.lookup t (rv ρ (.map (some id))) (rv ρ k) comma).run P w = .ok (if comma then .tuple #[x, .bool q.isSome] else x) w := by
    intro q x hkd hf hq
    unfold Instr.lookup
    simp only [rv, hb, Sem.run_bind, run_underlying ht, Result.andThen_ok, gotMap hw, Sem.run_pure, run_checkKey hd hkd, Instr.findKey, run_underlying hd, hf]
    cases q with
    | none => simp only at hq; simp only [Sem.run_bind, hq, Result.andThen_ok, Sem.run_pure, Option.isSome_none]
    | some p => obtain ⟨j, u⟩ := p; simp only at hq; subst hq; simp only [Sem.run_bind, Result.andThen_ok, Sem.run_pure, Option.isSome_some]
  split at h
  · rename_i v0 r0 hf hs
    cases h
    obtain ⟨j, hj⟩ := findA_sound (i := 0) hf hes
    rw [main _ _ (sameA_sound hs ρ).1 hj rfl]
    cases comma <;> simp [rv, rvA, rvL]
  · rename_i r0 hf hs
    split at h
    case h_2 => cases h
    rename_i z hz
    cases h
    obtain ⟨hz1, hz2⟩ := zeroV_sound hz
    rw [main none z (sameA_sound hs ρ).1 (findA_sound (i := 0) hf hes) (hz1 w)]
    cases comma <;> simp [rv, rvA, rvL, rv_pure ρ z hz2]
  · cases h

/-- A new entry of a map. -/
def evInsert (P : Program) (H : Heap) (t : TypeId) (m k v : Value) : Option Heap :=
  match m, undF P t with
  | .map (some id), some (.map kt _) => match undF P kt, H.get id with
    | some d, some (.map es) => match findA d k es, sameA d k k with
      | some none, some _ => some (H.set id (.map (es ++ [(k, v)])))
      | _, _ => none
    | _, _ => none
  | _, _ => none

theorem evInsert_sound {P : Program} {B : Nat} {M : Nat → Prop} {ρ : Num} {H H' : Heap} {w : World} (hS : Sim P B M ρ H w) {t : TypeId} {m k v : Value} (h : evInsert P H t m k v = some H') :
    ∃ w', (Instr.mapUpdate t (rv ρ m) (rv ρ k) (rv ρ v)).run P w = .ok () w' ∧ Sim P B M ρ H' w' ∧ Keeps B M w w' := by
  unfold evInsert at h
  simp only [undF_eq] at h
  split at h
  case h_2 => cases h
  rename_i id kt e ht
  split at h
  case h_2 => cases h
  rename_i d es hd hget
  split at h
  case h_2 => cases h
  rename_i r0 hf hs
  cases h
  obtain ⟨b, mes, ck, hb, hw, hes, hown⟩ := hS.obj id _ hget
  have hkd := (sameA_sound hs ρ).1
  have hj : Instr.findNow d (rv ρ k) mes.toList 0 = some none := findA_sound (i := 0) hf hes
  refine ⟨w.putObj b (.map (mes.push { key := rv ρ k, val := rv ρ v, born := ck }) (ck + 1)), ?_, ?_, ?_⟩
  · unfold Instr.mapUpdate
    simp only [rv, hb, Sem.run_bind, run_underlying ht, Result.andThen_ok, gotMap hw, run_checkKey hd hkd, Instr.findKey, run_underlying hd, hj, Sem.run_pure]
    simp [setObj, Sem.run, hw, World.putObj]
  · refine hS.turn hget rfl hb ⟨b, _, _, rfl, World.putObj_heap_same (getElem?_lt_size hw), ?_, hown⟩ (fun k hk => World.putObj_heap_other hk)
    unfold mapIs at hes ⊢
    simp only [Array.toList_push, List.map_append, hes, List.map_cons, List.map_nil]
  · refine ⟨rfl, rfl, rfl, by simp [World.putObj], fun k hk hm => World.putObj_heap_other (fun e => ?_)⟩
    subst e
    rcases hown with h | h
    · omega
    · exact hm h

/-! Pointers, slices, values of interfaces held against nil; a pointer against itself. -/

def nilC : Operand → Bool
  | .const v => match v with
    | .pointer none => true
    | .slice none _ _ => true
    | .nilIface => true
    | _ => false
  | _ => false

def cmpB : BinOp → Bool → Option Value
  | .eql, b => some (.bool b)
  | .neq, b => some (.bool (!b))
  | _, _ => none

def evNil (P : Program) (H : Heap) (op : BinOp) (t : TypeId) (a b : Value) : Option Value :=
  match undF P t with
  | some (.pointer _) => match a, b with
    | .pointer (some ⟨id, _, _⟩), .pointer none => match known P H id with
      | true => cmpB op false
      | false => none
    | _, _ => none
  | some (.slice _) => match a, b with
    | .slice (some ⟨id, _, none⟩) _ _, .slice none _ _ => match known P H id with
      | true => cmpB op false
      | false => none
    | _, _ => none
  | some (.interface _) => match a, b with
    | .iface _ _, .nilIface => cmpB op false
    | _, _ => none
  | _ => none

def evSame (P : Program) (op : BinOp) (t : TypeId) (a b : Value) : Option Value :=
  match a, b with
  | .pointer (some ⟨i, o, none⟩), .pointer (some ⟨j, o', none⟩) => match Nat.beq i j && Nat.beq o o' with
    | true => match undF P t with
      | some (.pointer e) => match P.info? e with
        | some _ => cmpB op true
        | none => none
      | _ => none
    | false => none
  | _, _ => none

theorem equalIn_ptrnil {P : Program} {w : World} (D : Nat) {t e : TypeId} {a : Addr} (h : P.underlying t = some (.pointer e)) : (Op.equalIn (D + 1) t (.pointer (some a)) (.pointer none)).run P w = .ok false w := by
  simp only [Op.equalIn, Sem.run_bind, run_underlying h, Result.andThen_ok]
  rfl
theorem equalIn_slicenil {P : Program} {w : World} (D : Nat) {t e : TypeId} {a : Addr} {n c n' c' : Nat} (h : P.underlying t = some (.slice e)) : (Op.equalIn (D + 1) t (.slice (some a) n c) (.slice none n' c')).run P w = .ok false w := by
  simp only [Op.equalIn, Sem.run_bind, run_underlying h, Result.andThen_ok]
  rfl
theorem equalIn_ifacenil {P : Program} {w : World} (D : Nat) {t t' : TypeId} {v' : Value} (h : (P.underlying t).map (fun d => match d with | .interface _ => true | _ => false) = some true) : (Op.equalIn (D + 1) t (.iface t' v') .nilIface).run P w = .ok false w := by
  cases hu : P.underlying t with
  | none => rw [hu] at h; cases h
  | some d =>
    rw [hu] at h
    cases d <;> first | (cases h; done) | (simp only [Op.equalIn, Sem.run_bind, run_underlying hu, Result.andThen_ok]; rfl)
theorem equalIn_ptrsame {P : Program} {w : World} (D : Nat) {t e : TypeId} {inf : TypeInfo} {b o : Nat} (h : P.underlying t = some (.pointer e)) (hi : P.info? e = some inf) : (Op.equalIn (D + 1) t (.pointer (some ⟨b, o, none⟩)) (.pointer (some ⟨b, o, none⟩))).run P w = .ok true w := by
  simp only [Op.equalIn, Sem.run_bind, run_underlying h, run_sizeOf' hi, Result.andThen_ok]
  by_cases hz : inf.size = 0
  · simp [hz]
  · simp [hz, sameAddr]
theorem equalIn_ptrnone {P : Program} {w : World} (D : Nat) {t e : TypeId} (h : P.underlying t = some (.pointer e)) : (Op.equalIn (D + 1) t (.pointer none) (.pointer none)).run P w = .ok true w := by
  simp only [Op.equalIn, Sem.run_bind, run_underlying h, Result.andThen_ok]
  rfl

theorem cmpB_sound {P : Program} {op : BinOp} {t : TypeId} {xo yo : Operand} {x y v : Value} {b : Bool} (h : cmpB op b = some v) (h1 : ¬ (x = .nilIface ∧ y = .nilIface)) (h2 : ¬ ((∃ a, x = .agg a) ∧ ∃ b, y = .agg b)) (ρ : Num) (w : World)
    (he : (Op.equalIn 10000 t x y).run P w = .ok b w) (hb : ∀ op', op' = BinOp.eql ∨ op' = BinOp.neq → binOp op' t x y = (do let r ← Op.equal t x y; pure (.bool (if op' = BinOp.eql then r else !r)))) :
    (do eqGuard op t xo yo x y; binOp op t x y : Sem Value).run P w = .ok (rv ρ v) w := by
  rw [Sem.run_bind, run_eqGuard_plain h1 h2]
  simp only [Result.andThen_ok]
  unfold cmpB at h
  split at h
  · cases h
    rw [hb _ (.inl rfl)]
    simp only [Sem.run_bind, Op.equal, Op.maxDepth, he, Result.andThen_ok, rv]
    rfl
  · cases h
    rw [hb _ (.inr rfl)]
    simp only [Sem.run_bind, Op.equal, Op.maxDepth, he, Result.andThen_ok, rv]
    rfl
  · cases h

theorem evNil_sound {P : Program} {B : Nat} {M : Nat → Prop} {ρ : Num} {H : Heap} {w : World} (hS : Sim P B M ρ H w) {op : BinOp} {t : TypeId} {xo yo : Operand} {a b v : Value} (h : evNil P H op t a b = some v) :
    (do eqGuard op t xo yo (rv ρ a) (rv ρ b); binOp op t (rv ρ a) (rv ρ b) : Sem Value).run P w = .ok (rv ρ v) w := by
  unfold evNil at h
  simp only [undF_eq] at h
  split at h
  · rename_i e hu
    split at h
    case h_2 => cases h
    rename_i id off sp
    split at h
    case h_2 => cases h
    rename_i hk
    obtain ⟨b, hb⟩ := known_sound hS hk
    refine cmpB_sound h (by simp [rv]) (by simp [rv]) ρ w ?_ (fun op' ho => ?_)
    · simp only [rv, rAddr, hb, Option.map_some]
      exact equalIn_ptrnil 9999 hu
    · simp only [rv, rAddr, hb, Option.map_some]
      rcases ho with rfl | rfl <;> rfl
  · rename_i e hu
    split at h
    case h_2 => cases h
    rename_i id off n c n' c'
    split at h
    case h_2 => cases h
    rename_i hk
    obtain ⟨b, hb⟩ := known_sound hS hk
    refine cmpB_sound h (by simp [rv, rSl]) (by simp [rv, rSl]) ρ w ?_ (fun op' ho => ?_)
    · simp only [rv, rSl, rAddr, hb, Option.map_some]
      exact equalIn_slicenil 9999 hu
    · simp only [rv, rSl, rAddr, hb, Option.map_some]
      rcases ho with rfl | rfl <;> rfl
  · rename_i e hu
    split at h
    case h_2 => cases h
    rename_i t' v'
    refine cmpB_sound h (by simp [rv]) (by simp [rv]) ρ w ?_ (fun op' ho => ?_)
    · simp only [rv]
      exact equalIn_ifacenil 9999 (by rw [hu]; rfl)
    · simp only [rv]
      rcases ho with rfl | rfl <;> rfl
  · cases h

theorem evSame_sound {P : Program} (ρ : Num) (w : World) {op : BinOp} {t : TypeId} {xo yo : Operand} {a b v : Value} (h : evSame P op t a b = some v) :
    (do eqGuard op t xo yo (rv ρ a) (rv ρ b); binOp op t (rv ρ a) (rv ρ b) : Sem Value).run P w = .ok (rv ρ v) w := by
  unfold evSame at h
  simp only [undF_eq] at h
  split at h
  case h_2 => cases h
  rename_i i o j o'
  split at h
  case h_2 => cases h
  rename_i hq
  simp only [Bool.and_eq_true, Nat.beq_eq] at hq
  obtain ⟨rfl, rfl⟩ := hq
  split at h
  case h_2 => cases h
  rename_i e hu
  split at h
  case h_2 => cases h
  rename_i inf hi
  refine cmpB_sound h (by simp [rv]) (by simp [rv]) ρ w ?_ (fun op' ho => ?_)
  · cases hb : ρ i with
    | none =>
      simp only [rv, rAddr, hb, Option.map_none]
      exact equalIn_ptrnone 9999 hu
    | some b =>
      simp only [rv, rAddr, hb, Option.map_some]
      exact equalIn_ptrsame 9999 hu hi
  · simp only [rv]
    rcases ho with rfl | rfl <;> rfl

def evOp (P : Program) (auto : Bool) (ev : Operand → Option Value) (o : Oper) (H : Heap) (n : Nat) (ds : List Bool) : Option R :=
  match o.op with
  | .move x => mkR H ds (ev x)
  | .assign x => mkR H ds (ev x)
  | .alloc t => match zeroV P t with
    | some z => some ⟨.pointer (some ⟨n, 0, none⟩), (n, .cells z.cells.toList t) :: H, [], ds⟩
    | none => none
  | .box t x => match ev x with
    | some v => some ⟨.pointer (some ⟨n, 0, none⟩), (n, .cells v.cells.toList t) :: H, [], ds⟩
    | none => none
  | .build t ps => match evParts ev ps.toList with
    | some l => mkR H ds (evBuild P t l)
    | none => none
  | .buildSlice t len ps => match evParts ev ps.toList with
    | some l => match evBuildSlice P t len l with
      | some (e, cs) => some ⟨.slice (some ⟨n, 0, none⟩) len len, (n, .cells cs e) :: H, [], ds⟩
      | none => none
    | none => none
  | .load t x => match ev x with
    | some v => mkR2 H ds (evLoad P auto H t v)
    | none => none
  | .store t x y => match ev x, ev y with
    | some a, some v => match evStoreI P auto H t a v with
      | some (H', l) => some ⟨undef, H', l, ds⟩
      | none => match evStore P H t a v with
        | some H' => some ⟨undef, H', [], ds⟩
        | none => none
    | _, _ => none
  | .nilCheck x => match ev x with
    | some (.pointer (some ⟨id, off, sp⟩)) => match known P H id with
      | true => some ⟨.pointer (some ⟨id, off, sp⟩), H, [], ds⟩
      | false => none
    | some (.func (.func f) a b) => some ⟨.func (.func f) a b, H, [], ds⟩
    | some (.func (.yield f) a b) => some ⟨.func (.yield f) a b, H, [], ds⟩
    | _ => none
  | .binOp op t x y _ => match ev x, ev y with
    | some a, some b => match nilC y with
      | true => match evNil P H op t a b with
        | some v => mkR H ds (some v)
        | none => mkR2 H ds (evBin P auto op t x y a b)
      | false => match evSame P op t a b with
        | some v => mkR H ds (some v)
        | none => mkR2 H ds (evBin P auto op t x y a b)
    | _, _ => none
  | .unOp op _ x => match ev x with
    | some a => match pureV a with
      | true => mkR H ds (pureOnly (pureRun P (Op.unary op a)))
      | false => none
    | none => none
  | .convert s d x => match ev x with
    | some a => match pureV a with
      | true => mkR H ds (pureOnly (pureRun P (convert s d a)))
      | false => match evB2s P auto H s d a with
        | some (v, l) => some ⟨v, H, l, ds⟩
        | none => mkR H ds (evConv P H s d a)
    | none => none
  | .makeInterface t x => match ev x, concreteT P t with
    | some a, true => some ⟨.iface t a, H, [], ds⟩
    | _, _ => none
  | .makeFunc fn first cap => match evArgs ev first.toList, evArgs ev cap.toList, isYield fn with
    | some a, some b, false => some ⟨.func fn ⟨a⟩ ⟨b⟩, H, [], ds⟩
    | _, _, _ => none
  | .slice t x lo hi none => match ev x, optO ev lo, optO ev hi, undF P t with
    | some (.string s), some l, some h, some .string => mkR2 H ds (evSliceS auto s l h)
    | some (.slice a n c), some l, some h, some (.slice e) => mkR2 H ds (evSliceC P auto H e a n c l h)
    | some (.pointer (some ⟨id, off, none⟩)), some l, some h, some (.array len e) => mkR2 H ds (evSliceA P auto H len e id off l h)
    | _, _, _, _ => none
  | .slice t x none (some hi) (some mx) => match ev x, ev hi, ev mx, undF P t with
    | some (.slice a n c), some (.int _ (.ofNat h)), some (.int _ (.ofNat m)), some (.slice e) => match auto with
      | true => mkR H ds (evClip P H e a n c h m)
      | false => none
    | _, _, _, _ => none
  | .makeSlice t len cap => match ev len, ev cap with
    | some (.int _ l), some (.int _ c) => match evMake P auto t l c with
      | some (e, cs, ob) => some ⟨.slice (some ⟨n, 0, none⟩) l.toNat c.toNat, (n, .cells cs e) :: H, ob, ds⟩
      | none => none
    | _, _ => none
  | .fieldAddr s x f => match ev x with
    | some a => mkR H ds (evFieldAddr P H s a f)
    | none => none
  | .field t x f => match ev x with
    | some a => mkR H ds (evField P t a f)
    | none => none
  | .indexAddr t x ix => match ev x, ev ix with
    | some a, some i => mkR2 H ds (evIndexAddr P auto H t a i)
    | _, _ => none
  | .index t x ix => match ev x, ev ix with
    | some a, some i => mkR2 H ds (evIndex P auto t a i)
    | _, _ => none
  | .extract x i => match ev x with
    | some a => mkR H ds (evExtract a i)
    | none => none
  | .range t x => match ev x, undF P t with
    | some (.string s), some .string => some ⟨.pointer (some ⟨n, 0, none⟩), (n, .iter s 0) :: H, [], ds⟩
    | _, _ => none
  | .next x true => match ev x with
    | some a => match evNext auto H a ds with
      | some (v, H', l, ds') => some ⟨v, H', l, ds'⟩
      | none => none
    | none => none
  | .makeMap _ none => some ⟨.map (some n), (n, .map []) :: H, [], ds⟩
  | .lookup t m k comma => match ev m, ev k with
    | some a, some b => mkR H ds (evLookup P H t a b comma)
    | _, _ => none
  | .insert t m k x => match ev m, ev k, ev x with
    | some a, some b, some v => match evInsert P H t a b v with
      | some H' => some ⟨undef, H', [], ds⟩
      | none => none
    | _, _, _ => none
  | .mapUpdate t m k x => match ev m, ev k, ev x with
    | some a, some b, some v => match evInsert P H t a b v with
      | some H' => some ⟨undef, H', [], ds⟩
      | none => none
    | _, _, _ => none
  | _ => none

def NextVal (nx : Next) (v : Value) : Prop := nx = .value v ∨ (nx = .skip ∧ v = undef)

theorem evOp_nodefer {P : Program} {auto : Bool} {ev : Operand → Option Value} {o : Oper} {H : Heap} {n : Nat} {ds : List Bool} {r : R} (h : evOp P auto ev o H n ds = some r) : ∀ c, o.op ≠ .defer c := by
  intro c hc
  unfold evOp at h
  simp only [undF_eq] at h
  rw [hc] at h
  cases h

theorem mkR_some {H : Heap} {ds : List Bool} {x : Option Value} {r : R} (h : mkR H ds x = some r) : x = some r.v ∧ r.h = H ∧ r.obs = [] ∧ r.ds = ds := by
  unfold mkR at h
  split at h
  · cases h; exact ⟨rfl, rfl, rfl, rfl⟩
  · cases h
theorem mkR2_some {H : Heap} {ds : List Bool} {x : Option (Value × List Prop)} {r : R} (h : mkR2 H ds x = some r) : x = some (r.v, r.obs) ∧ r.h = H ∧ r.ds = ds := by
  unfold mkR2 at h
  split at h
  · cases h; exact ⟨rfl, rfl, rfl⟩
  · cases h

theorem rv_undef (ρ : Num) : rv ρ undef = undef := by simp [undef, rv, rvA, rvL]

theorem evOp_sound {P : Program} {auto : Bool} {B : Nat} {M : Nat → Prop} {ρ : Num} {H : Heap} {w : World} (hS : Sim P B M ρ H w) {n : Nat} (hB : B ≤ w.heap.size)
    {ev : Operand → Option Value} {a : Operand → Value} {o : Oper} (hn' : stillOp o.op = false → ρ n = some w.heap.size) (he : ∀ x ∈ o.op.operands.toList, ∀ y, ev x = some y → a x = rv ρ y) {ds : List Bool} {r : R} (h : evOp P auto ev o H n ds = some r) (hl : allP r.obs) :
    ∃ nx w', (execOp a o).run P w = .ok nx w' ∧ NextVal nx (rv ρ r.v) ∧ Sim P B M ρ r.h w' ∧ Keeps B M w w' ∧ (stillOp o.op = true → r.h = H ∧ r.ds = ds ∧ w' = w) := by
  have still : ∀ {v : Value} {s : Sem Value}, execOp a o = (do pure (.value (← s))) → s.run P w = .ok (rv ρ r.v) w → r.h = H → r.ds = ds →
      ∃ nx w', (execOp a o).run P w = .ok nx w' ∧ NextVal nx (rv ρ r.v) ∧ Sim P B M ρ r.h w' ∧ Keeps B M w w' ∧ (stillOp o.op = true → r.h = H ∧ r.ds = ds ∧ w' = w) := by
    intro v s h1 h2 h3 h4
    refine ⟨.value (rv ρ r.v), w, ?_, .inl rfl, by rw [h3]; exact hS, Keeps.refl _ _ _, fun _ => ⟨h3, h4, rfl⟩⟩
    rw [h1, Sem.run_bind, h2]
    rfl
  unfold evOp at h
  simp only [undF_eq] at h
  split at h
  · rename_i x ho
    obtain ⟨h1, h2, h3, h4⟩ := mkR_some h
    refine ⟨.value (rv ρ r.v), w, ?_, .inl rfl, by rw [h2]; exact hS, Keeps.refl _ _ _, fun _ => ⟨h2, h4, rfl⟩⟩
    simp only [execOp, ho]
    rw [he x (by simp [ho, Op.operands]) _ h1]
    rfl
  · rename_i x ho
    obtain ⟨h1, h2, h3, h4⟩ := mkR_some h
    refine ⟨.value (rv ρ r.v), w, ?_, .inl rfl, by rw [h2]; exact hS, Keeps.refl _ _ _, fun _ => ⟨h2, h4, rfl⟩⟩
    simp only [execOp, ho]
    rw [he x (by simp [ho, Op.operands]) _ h1]
    rfl
  · rename_i t ho
    have hn := hn' (by rw [ho]; rfl)
    split at h
    case h_2 => cases h
    rename_i z hz
    cases h
    obtain ⟨hz1, hz2⟩ := zeroV_sound hz
    have hs := newVar_sound hS hn hB t z
    rw [rv_pure ρ z hz2] at hs
    refine ⟨.value (.pointer (some ⟨w.heap.size, 0, none⟩)), _, ?_, .inl (by simp [rv, rAddr, hn]), hs, Keeps.of_below ((Below.refl _ _).alloc (Nat.le_refl _) _) hB, fun hst => by simp [ho, stillOp] at hst⟩
    simp only [execOp, ho, Instr.alloc, Sem.run_bind, hz1, Result.andThen_ok, run_newVar', Sem.run_pure]
  · rename_i t x ho
    have hn := hn' (by rw [ho]; rfl)
    split at h
    case h_2 => cases h
    rename_i v hv
    cases h
    have hs := newVar_sound hS hn hB t v
    refine ⟨.value (.pointer (some ⟨w.heap.size, 0, none⟩)), _, ?_, .inl (by simp [rv, rAddr, hn]), hs, Keeps.of_below ((Below.refl _ _).alloc (Nat.le_refl _) _) hB, fun hst => by simp [ho, stillOp] at hst⟩
    simp only [execOp, ho, Instr.box, Sem.run_bind, run_newVar', Result.andThen_ok, Sem.run_pure]
    rw [he x (by simp [ho, Op.operands]) _ hv]
  · rename_i t ps ho
    split at h
    case h_2 => cases h
    rename_i l hp
    obtain ⟨h1, h2, h3, h4⟩ := mkR_some h
    have hps := evParts_sound (a := a) (ρ := ρ) ps.toList l (fun q hq => he q.2 (by simp only [ho, Op.operands]; exact List.mem_map.2 ⟨q, hq, rfl⟩)) hp
    have hb := evBuild_sound h1 ρ w
    have hpe : (ps.map fun p : Nat × Operand => (p.1, a p.2)) = (l.map fun p => (p.1, rv ρ p.2)).toArray := by
      rw [← hps]
      apply Array.ext'
      simp
    refine still (v := r.v) (s := Instr.build t (ps.map fun p : Nat × Operand => (p.1, a p.2))) (by simp only [execOp, ho]) ?_ h2 h4
    rw [hpe]
    exact hb
  · rename_i t len ps ho
    have hn := hn' (by rw [ho]; rfl)
    split at h
    case h_2 => cases h
    rename_i l hp
    split at h
    case h_2 => cases h
    rename_i e cs hbs
    cases h
    have hps := evParts_sound (a := a) (ρ := ρ) ps.toList l (fun q hq => he q.2 (by simp only [ho, Op.operands]; exact List.mem_map.2 ⟨q, hq, rfl⟩)) hp
    have hb := evBuildSlice_sound hbs ρ w
    have hpe : (ps.map fun p : Nat × Operand => (p.1, a p.2)) = (l.map fun p => (p.1, rv ρ p.2)).toArray := by
      rw [← hps]
      apply Array.ext'
      simp
    have hs : Sim P B M ρ ((n, .cells cs e) :: H) (w.alloc (.cells (rvL ρ cs).toArray e)) :=
      hS.new hn ⟨w.heap.size, rfl, heap_alloc_new _ _, .inl hB⟩
    refine ⟨.value (.slice (some ⟨w.heap.size, 0, none⟩) len len), _, ?_, .inl (by simp [rv, rSl, rAddr, hn]), hs, Keeps.of_below ((Below.refl _ _).alloc (Nat.le_refl _) _) hB, fun hst => by simp [ho, stillOp] at hst⟩
    simp only [execOp, ho, Sem.run_bind]
    rw [hpe, hb]
    rfl
  · rename_i t x ho
    split at h
    case h_2 => cases h
    rename_i v hv
    obtain ⟨h1, h2, h3⟩ := mkR2_some h
    refine still (v := r.v) (s := Instr.loadAt t (a x)) (by simp only [execOp, ho]) ?_ h2 h3
    rw [he x (by simp [ho, Op.operands]) _ hv]
    exact evLoad_sound hS h1 hl
  · rename_i t x y ho
    split at h
    case h_2 => cases h
    rename_i p v hp hv
    split at h
    · rename_i H' l hst
      cases h
      obtain ⟨w', h1, h2, h3⟩ := evStoreI_sound hS hst hl
      refine ⟨.skip, w', ?_, .inr ⟨rfl, rv_undef ρ⟩, h2, h3, fun hst => by simp [ho, stillOp] at hst⟩
      simp only [execOp, ho, Sem.run_bind]
      rw [he x (by simp [ho, Op.operands]) _ hp, he y (by simp [ho, Op.operands]) _ hv, h1]
      rfl
    split at h
    case h_2 => cases h
    rename_i H' hst
    cases h
    obtain ⟨w', h1, h2, h3, _⟩ := evStore_sound hS hst
    refine ⟨.skip, w', ?_, .inr ⟨rfl, rv_undef ρ⟩, h2, h3, fun hst => by simp [ho, stillOp] at hst⟩
    simp only [execOp, ho, Sem.run_bind]
    rw [he x (by simp [ho, Op.operands]) _ hp, he y (by simp [ho, Op.operands]) _ hv, h1]
    rfl
  · rename_i x ho
    split at h
    · rename_i id off sp hv
      split at h
      case h_2 => cases h
      rename_i hk
      cases h
      obtain ⟨b, hb⟩ := known_sound hS hk
      refine ⟨.value (rv ρ (.pointer (some ⟨id, off, sp⟩))), w, ?_, .inl rfl, hS, Keeps.refl _ _ _, fun _ => ⟨rfl, rfl, rfl⟩⟩
      simp only [execOp, ho]
      rw [he x (by simp [ho, Op.operands]) _ hv]
      simp only [rv, rAddr, hb, Option.map_some]
      rfl
    · rename_i f c d hv
      cases h
      refine ⟨.value (rv ρ (.func (.func f) c d)), w, ?_, .inl rfl, hS, Keeps.refl _ _ _, fun _ => ⟨rfl, rfl, rfl⟩⟩
      simp only [execOp, ho]
      rw [he x (by simp [ho, Op.operands]) _ hv]
      simp only [rv, rFn]
      rfl
    · rename_i f c d hv
      cases h
      refine ⟨.value (rv ρ (.func (.yield f) c d)), w, ?_, .inl rfl, hS, Keeps.refl _ _ _, fun _ => ⟨rfl, rfl, rfl⟩⟩
      simp only [execOp, ho]
      rw [he x (by simp [ho, Op.operands]) _ hv]
      simp only [rv, rFn]
      rfl
    · cases h
  · rename_i op t x y yt ho
    split at h
    case h_2 => cases h
    rename_i u v hu hv
    have bin : mkR2 H ds (evBin P auto op t x y u v) = some r → ∃ nx w', (execOp a o).run P w = .ok nx w' ∧ NextVal nx (rv ρ r.v) ∧ Sim P B M ρ r.h w' ∧ Keeps B M w w' ∧ (stillOp o.op = true → r.h = H ∧ r.ds = ds ∧ w' = w) := fun h => by
      obtain ⟨h1, h2, h3⟩ := mkR2_some h
      refine still (v := r.v) (s := do eqGuard op t x y (a x) (a y); binOp op t (a x) (a y)) (by simp only [execOp, ho]) ?_ h2 h3
      rw [he x (by simp [ho, Op.operands]) _ hu, he y (by simp [ho, Op.operands]) _ hv]
      exact evBin_sound h1 hl ρ w
    split at h
    · split at h
      · rename_i z hz
        obtain ⟨h1, h2, h3, h4⟩ := mkR_some h
        cases h1
        refine still (v := r.v) (s := do eqGuard op t x y (a x) (a y); binOp op t (a x) (a y)) (by simp only [execOp, ho]) ?_ h2 h4
        rw [he x (by simp [ho, Op.operands]) _ hu, he y (by simp [ho, Op.operands]) _ hv]
        exact evNil_sound hS hz
      · exact bin h
    · split at h
      · rename_i z hz
        obtain ⟨h1, h2, h3, h4⟩ := mkR_some h
        cases h1
        refine still (v := r.v) (s := do eqGuard op t x y (a x) (a y); binOp op t (a x) (a y)) (by simp only [execOp, ho]) ?_ h2 h4
        rw [he x (by simp [ho, Op.operands]) _ hu, he y (by simp [ho, Op.operands]) _ hv]
        exact evSame_sound ρ w hz
      · exact bin h
  · rename_i op t x ho
    split at h
    case h_2 => cases h
    rename_i u hu
    split at h
    case h_2 => cases h
    rename_i hp
    obtain ⟨h1, h2, h3, h4⟩ := mkR_some h
    refine still (v := r.v) (s := Op.unary op (a x)) (by simp only [execOp, ho]) ?_ h2 h4
    rw [he x (by simp [ho, Op.operands]) _ hu, rv_pure ρ _ hp]
    exact pureOnly_sound h1 ρ w
  · rename_i s d x ho
    split at h
    case h_2 => cases h
    rename_i u hu
    split at h
    · rename_i hp
      obtain ⟨h1, h2, h3, h4⟩ := mkR_some h
      refine still (v := r.v) (s := convert s d (a x)) (by simp only [execOp, ho]) ?_ h2 h4
      rw [he x (by simp [ho, Op.operands]) _ hu, rv_pure ρ _ hp]
      exact pureOnly_sound h1 ρ w
    · split at h
      · rename_i v l hb2
        cases h
        refine still (v := v) (s := convert s d (a x)) (by simp only [execOp, ho]) ?_ rfl rfl
        rw [he x (by simp [ho, Op.operands]) _ hu]
        exact evB2s_sound hS hb2 hl
      obtain ⟨h1, h2, h3, h4⟩ := mkR_some h
      refine still (v := r.v) (s := convert s d (a x)) (by simp only [execOp, ho]) ?_ h2 h4
      rw [he x (by simp [ho, Op.operands]) _ hu]
      exact evConv_sound hS h1
  · rename_i t x ho
    split at h
    case h_2 => cases h
    rename_i u hu hc
    cases h
    refine still (v := u) (s := Instr.makeInterface t (a x)) (by simp only [execOp, ho]) ?_ rfl rfl
    rw [he x (by simp [ho, Op.operands]) _ hu]
    unfold concreteT at hc
    simp only [undF_eq] at hc
    split at hc
    · cases hc
    · cases hc
    · rename_i d hni hd
      simp only [Instr.makeInterface, Sem.run_bind, run_underlying hd, Result.andThen_ok, rv]
      cases d <;> first | (exact absurd rfl (hni _)) | rfl
  · rename_i fn first cap ho
    split at h
    case h_2 => cases h
    rename_i l1 l2 h1 h2 h3
    cases h
    have e1 := evArgs_sound (a := a) (ρ := ρ) first.toList l1 (fun q hq => he q (by simp only [ho, Op.operands, Array.toList_append]; exact List.mem_append_left _ hq)) h1
    have e2 := evArgs_sound (a := a) (ρ := ρ) cap.toList l2 (fun q hq => he q (by simp only [ho, Op.operands, Array.toList_append]; exact List.mem_append_right _ hq)) h2
    refine still (v := .nilIface) (s := Instr.makeFunc fn (first.map a) (cap.map a)) (by simp only [execOp, ho]) ?_ rfl rfl
    have f1 : first.map a = ⟨rvL ρ l1⟩ := by apply Array.ext'; simpa using e1
    have f2 : cap.map a = ⟨rvL ρ l2⟩ := by apply Array.ext'; simpa using e2
    rw [f1, f2]
    simp [Instr.makeFunc, rv, rvA, rFn_plain ρ fn h3]
  · rename_i t x lo hi ho
    have memo : ∀ (z : Operand), (some z = lo ∨ some z = hi) → z ∈ o.op.operands.toList := by
      intro z hz
      simp only [ho, Op.operands]
      rcases hz with hz | hz <;> (rw [← hz]; simp)
    have oo : ∀ (z : Option Operand) (r : Option Value), (z = lo ∨ z = hi) → optO ev z = some r → z.map a = r.map (rv ρ) := by
      intro z r hz hr
      cases z with
      | none => simp only [optO] at hr; cases hr; rfl
      | some z =>
        simp only [optO] at hr
        split at hr
        · rename_i v hv; cases hr; simp [he z (memo z hz) v hv]
        · cases hr
    split at h
    · rename_i s l hh hv hlo hhi hu
      obtain ⟨h1, h2, h3⟩ := mkR2_some h
      refine still (v := r.v) (s := Instr.sliceAt t (a x) (lo.map a) (hi.map a) none) (by simp only [execOp, ho, Option.map_none]) ?_ h2 h3
      rw [he x (by simp [ho, Op.operands]) _ hv, oo lo l (.inl rfl) hlo, oo hi hh (.inr rfl) hhi]
      simp only [rv]
      exact evSliceS_sound hu h1 hl ρ w
    · rename_i a0 n0 c0 l hh e hv hlo hhi hu
      obtain ⟨h1, h2, h3⟩ := mkR2_some h
      refine still (v := r.v) (s := Instr.sliceAt t (a x) (lo.map a) (hi.map a) none) (by simp only [execOp, ho, Option.map_none]) ?_ h2 h3
      obtain ⟨b1, b2⟩ := evSliceC_bnd (ρ := ρ) h1
      rw [he x (by simp [ho, Op.operands]) _ hv, oo lo l (.inl rfl) hlo, oo hi hh (.inr rfl) hhi, b1, b2]
      exact evSliceC_sound hS h1 hl hu
    · rename_i id off l hh len e hv hlo hhi hu
      obtain ⟨h1, h2, h3⟩ := mkR2_some h
      refine still (v := r.v) (s := Instr.sliceAt t (a x) (lo.map a) (hi.map a) none) (by simp only [execOp, ho, Option.map_none]) ?_ h2 h3
      obtain ⟨b1, b2⟩ := evSliceA_bnd (ρ := ρ) h1
      rw [he x (by simp [ho, Op.operands]) _ hv, oo lo l (.inl rfl) hlo, oo hi hh (.inr rfl) hhi, b1, b2]
      exact evSliceA_sound hS h1 hl hu
    · cases h
  · rename_i t x hi mx ho
    split at h
    case h_2 => cases h
    rename_i a0 n0 c0 kh hh km mm e hv hhi hmx hu
    split at h
    case h_2 => cases h
    obtain ⟨h1, h2, _, h3⟩ := mkR_some h
    refine still (v := r.v) (s := Instr.sliceAt t (a x) none (some (a hi)) (some (a mx))) (by simp only [execOp, ho, Option.map_none, Option.map_some]) ?_ h2 h3
    rw [he x (by simp [ho, Op.operands]) _ hv, he hi (by simp [ho, Op.operands]) _ hhi, he mx (by simp [ho, Op.operands]) _ hmx]
    simp only [rv]
    exact evClip_sound hS h1 hu
  · rename_i t len cap ho
    have hn := hn' (by rw [ho]; rfl)
    split at h
    case h_2 => cases h
    rename_i kl l kc c hlen hcap
    split at h
    case h_2 => cases h
    rename_i e cs ob hm
    cases h
    obtain ⟨m1, m2⟩ := evMake_sound hm hl kl kc w
    have hs : Sim P B M ρ ((n, .cells cs e) :: H) (w.alloc (.cells cs.toArray e)) := hS.new hn ⟨w.heap.size, rfl, by rw [heap_alloc_new, m2], .inl hB⟩
    refine ⟨.value (.slice (some ⟨w.heap.size, 0, none⟩) l.toNat c.toNat), _, ?_, .inl (by simp [rv, rSl, rAddr, hn]), hs, Keeps.of_below ((Below.refl _ _).alloc (Nat.le_refl _) _) hB, fun hst => by simp [ho, stillOp] at hst⟩
    simp only [execOp, ho]
    rw [he len (by simp [ho, Op.operands]) _ hlen, he cap (by simp [ho, Op.operands]) _ hcap]
    simp only [rv]
    rw [Sem.run_bind, m1]
    rfl
  · rename_i s x f ho
    split at h
    case h_2 => cases h
    rename_i u hu
    obtain ⟨h1, h2, h3, h4⟩ := mkR_some h
    refine still (v := r.v) (s := Instr.fieldAt s (a x) f) (by simp only [execOp, ho]) ?_ h2 h4
    rw [he x (by simp [ho, Op.operands]) _ hu]
    exact evFieldAddr_sound hS h1
  · rename_i t x f ho
    split at h
    case h_2 => cases h
    rename_i u hu
    obtain ⟨h1, h2, h3, h4⟩ := mkR_some h
    refine still (v := r.v) (s := Instr.field t (a x) f) (by simp only [execOp, ho]) ?_ h2 h4
    rw [he x (by simp [ho, Op.operands]) _ hu]
    exact evField_sound h1 ρ w
  · rename_i t x ix ho
    split at h
    case h_2 => cases h
    rename_i u v hu hv
    obtain ⟨h1, h2, h3⟩ := mkR2_some h
    refine still (v := r.v) (s := Instr.indexAt t (a x) (a ix)) (by simp only [execOp, ho]) ?_ h2 h3
    rw [he x (by simp [ho, Op.operands]) _ hu, he ix (by simp [ho, Op.operands]) _ hv]
    exact evIndexAddr_sound hS h1 hl
  · rename_i t x ix ho
    split at h
    case h_2 => cases h
    rename_i u v hu hv
    obtain ⟨h1, h2, h3⟩ := mkR2_some h
    refine still (v := r.v) (s := Instr.index t (a x) (a ix)) (by simp only [execOp, ho]) ?_ h2 h3
    rw [he x (by simp [ho, Op.operands]) _ hu, he ix (by simp [ho, Op.operands]) _ hv]
    exact evIndex_sound h1 hl ρ w
  · rename_i x i ho
    split at h
    case h_2 => cases h
    rename_i u hu
    obtain ⟨h1, h2, h3, h4⟩ := mkR_some h
    refine still (v := r.v) (s := Instr.extract (a x) i) (by simp only [execOp, ho]) ?_ h2 h4
    rw [he x (by simp [ho, Op.operands]) _ hu]
    exact evExtract_sound h1 ρ w
  · rename_i t x ho
    have hn := hn' (by rw [ho]; rfl)
    split at h
    case h_2 => cases h
    rename_i s hv hu
    cases h
    have hs : Sim P B M ρ ((n, .iter s 0) :: H) (w.alloc (.stringIter s 0)) :=
      hS.new hn ⟨w.heap.size, rfl, heap_alloc_new _ _, .inl hB⟩
    refine ⟨.value (.pointer (some ⟨w.heap.size, 0, none⟩)), _, ?_, .inl (by simp [rv, rAddr, hn]), hs, Keeps.of_below ((Below.refl _ _).alloc (Nat.le_refl _) _) hB, fun hst => by simp [ho, stillOp] at hst⟩
    simp only [execOp, ho, Sem.run_bind]
    rw [he x (by simp [ho, Op.operands]) _ hv]
    simp only [rv, run_range_string w t s hu]
    rfl
  · rename_i x ho
    split at h
    case h_2 => cases h
    rename_i u hu
    split at h
    case h_2 => cases h
    rename_i v H' l ds' hnx
    cases h
    obtain ⟨w', h1, h2, h3, _⟩ := evNext_sound (ty := o.type) hS hnx hl
    refine ⟨.value (rv ρ v), w', ?_, .inl rfl, h2, h3, fun hst => by simp [ho, stillOp] at hst⟩
    simp only [execOp, ho, Sem.run_bind]
    rw [he x (by simp [ho, Op.operands]) _ hu, h1]
    rfl
  · rename_i t ho
    have hn := hn' (by rw [ho]; rfl)
    cases h
    have hs : Sim P B M ρ ((n, .map []) :: H) (w.alloc (.map #[] 0)) :=
      hS.new hn ⟨w.heap.size, #[], 0, rfl, heap_alloc_new _ _, rfl, .inl hB⟩
    refine ⟨.value (.map (some w.heap.size)), _, ?_, .inl (by simp [rv, hn]), hs, Keeps.of_below ((Below.refl _ _).alloc (Nat.le_refl _) _) hB, fun hst => by simp [ho, stillOp] at hst⟩
    simp only [execOp, ho, Sem.run_bind, Instr.makeMap]
    rfl
  · rename_i t m k comma ho
    split at h
    case h_2 => cases h
    rename_i u v hu hv
    obtain ⟨h1, h2, h3, h4⟩ := mkR_some h
    refine still (v := r.v) (s := Instr.lookup t (a m) (a k) comma) (by simp only [execOp, ho]) ?_ h2 h4
    rw [he m (by simp [ho, Op.operands]) _ hu, he k (by simp [ho, Op.operands]) _ hv]
    exact evLookup_sound hS h1
  · rename_i t m k x ho
    split at h
    case h_2 => cases h
    rename_i u v q hu hv hq
    split at h
    case h_2 => cases h
    rename_i H' hst
    cases h
    obtain ⟨w', h1, h2, h3⟩ := evInsert_sound hS hst
    refine ⟨.skip, w', ?_, .inr ⟨rfl, rv_undef ρ⟩, h2, h3, fun hst => by simp [ho, stillOp] at hst⟩
    simp only [execOp, ho, Sem.run_bind]
    rw [he m (by simp [ho, Op.operands]) _ hu, he k (by simp [ho, Op.operands]) _ hv, he x (by simp [ho, Op.operands]) _ hq, h1]
    rfl
  · rename_i t m k x ho
    split at h
    case h_2 => cases h
    rename_i u v q hu hv hq
    split at h
    case h_2 => cases h
    rename_i H' hst
    cases h
    obtain ⟨w', h1, h2, h3⟩ := evInsert_sound hS hst
    refine ⟨.skip, w', ?_, .inr ⟨rfl, rv_undef ρ⟩, h2, h3, fun hst => by simp [ho, stillOp] at hst⟩
    simp only [execOp, ho, Sem.run_bind]
    rw [he m (by simp [ho, Op.operands]) _ hu, he k (by simp [ho, Op.operands]) _ hv, he x (by simp [ho, Op.operands]) _ hq, h1]
    rfl
  · cases h

end
end Go.Proofs.YtaopinmjgjpiiaaGreatDoor.Ev
