/-
  Several texts in one (merge.py): EvA, EvB.
-/
import Derived.WalkKit
import Derived.WalkSpells
import Derived.WalkLawsBesides
import Derived.Lib.Hide

/-
  The evaluator, part A: values whose block numbers are abstract, what they stand for under a numbering, and abstract memory. Nothing of the program stands here.
-/
namespace Go.Proofs.YtaopinmjgjpiiaaGreatDoor.Ev
open Go Go.RowKit
noncomputable section

/-! Lists by their recursor itself: it costs the kernel less. -/

def nthF {α : Type} (l : List α) : Nat → Option α :=
  List.rec (motive := fun _ => Nat → Option α) (fun _ => none) (fun x _ ih n => Nat.rec (motive := fun _ => Option α) (some x) (fun m _ => ih m) n) l

theorem nthF_eq {α : Type} (l : List α) : ∀ n, nthF l n = l[n]? := by
  induction l with
  | nil => intro n; rfl
  | cons x l ih =>
    intro n
    cases n with
    | zero => rfl
    | succ n => exact ih n

def setF {α : Type} (l : List α) : Nat → α → List α :=
  List.rec (motive := fun _ => Nat → α → List α) (fun _ _ => []) (fun x r ih n y => Nat.rec (motive := fun _ => List α) (y :: r) (fun m _ => x :: ih m y) n) l

theorem setF_eq {α : Type} (l : List α) : ∀ n x, setF l n x = l.set n x := by
  induction l with
  | nil => intro n x; rfl
  | cons y l ih =>
    intro n x
    cases n with
    | zero => rfl
    | succ n => exact congrArg (y :: ·) (ih n x)

/-- A type's entry. -/
def infF (P : Program) (t : TypeId) : Option TypeInfo := match nthF P.types.toList t with
  | some i => some i
  | none => P.info? t

theorem infF_eq (P : Program) (t : TypeId) : infF P t = P.info? t := by
  unfold infF
  rw [nthF_eq]
  split
  · rename_i i h
    have hlt : t < P.types.size := by
      have := (List.getElem?_eq_some_iff.1 h).1
      simpa using this
    have h2 : P.types[t]? = some i := by simpa using h
    show some i = Tables.info? _ t
    unfold Tables.info?
    rw [if_pos hlt]
    exact h2.symm
  · rfl

def undF (P : Program) (t : TypeId) : Option TypeDesc :=
  match infF P t with
  | some { desc := .named _ u, .. } => match infF P u with
    | some i => some i.desc
    | none => none
  | some i => some i.desc
  | none => none

theorem undF_eq (P : Program) (t : TypeId) : undF P t = P.underlying t := by
  unfold undF Program.underlying
  simp only [infF_eq]
  cases P.info? t with
  | none => rfl
  | some i =>
    obtain ⟨d, _⟩ := i
    cases d <;> first | rfl | (rename_i a u; dsimp only; cases P.info? u <;> rfl)

abbrev Num := Nat → Option Nat

def rAddr (ρ : Num) (a : Addr) : Option Addr := (ρ a.block).map fun b => { a with block := b }

def rFn (ρ : Num) : Fn → Fn
  | .yield l => .yield ((ρ l).getD 0)
  | f => f

def isYield : Fn → Bool
  | .yield _ => true
  | _ => false

theorem rFn_plain (ρ : Num) (f : Fn) (h : isYield f = false) : rFn ρ f = f := by
  cases f <;> first | rfl | (simp [isYield] at h)

/-- What a slice stands for. With a number k in the address: a row that has grown; its capacity is what k stands for, less c; if its block stands for nothing, it is nil. -/
def rSl (ρ : Num) (a : Addr) (n c : Nat) : Value :=
  match a with
  | ⟨j, off, none⟩ => .slice (rAddr ρ ⟨j, off, none⟩) n c
  | ⟨j, off, some k⟩ => match ρ j with
    | none => .slice none n 0
    | some b => .slice (some ⟨b, off, none⟩) n ((ρ k).getD 0 - c)

/-- An empty slice at the end of what it was cut from: where it points hangs on whether something of the capacity is left. -/
def endV (b k : Option Nat) (c l s : Nat) : Value := match b with
  | none => .slice none 0 0
  | some b => .slice (some ⟨b, if k.getD 0 - c = l then c * s else c * s + l * s, none⟩) 0 (k.getD 0 - c - l)
def endE (ρ : Num) (m : Nat) : Value := endV (ρ (m / 18446744073709551616 / 18446744073709551616 / 18446744073709551616 / 18446744073709551616)) (ρ (m / 18446744073709551616 / 18446744073709551616 / 18446744073709551616 % 18446744073709551616)) (m / 18446744073709551616 / 18446744073709551616 % 18446744073709551616) (m / 18446744073709551616 % 18446744073709551616) (m % 18446744073709551616)
def encE (j k c l s : Nat) : Nat := (((j * 18446744073709551616 + k) * 18446744073709551616 + c) * 18446744073709551616 + l) * 18446744073709551616 + s
theorem divmod_enc {a b w : Nat} (h : b < w) : (a * w + b) / w = a ∧ (a * w + b) % w = b := by
  have hw : 0 < w := by omega
  constructor
  · rw [Nat.add_comm, Nat.add_mul_div_right _ _ hw, Nat.div_eq_of_lt h, Nat.zero_add]
  · rw [Nat.add_comm, Nat.add_mul_mod_self_right, Nat.mod_eq_of_lt h]
theorem endE_enc (ρ : Num) {j k c l s : Nat} (hk : k < 18446744073709551616) (hc : c < 18446744073709551616) (hl : l < 18446744073709551616) (hs : s < 18446744073709551616) : endE ρ (encE j k c l s) = endV (ρ j) (ρ k) c l s := by
  unfold endE encE
  rw [(divmod_enc hs).1, (divmod_enc hs).2, (divmod_enc hl).1, (divmod_enc hl).2, (divmod_enc hc).1, (divmod_enc hc).2, (divmod_enc hk).1, (divmod_enc hk).2]
theorem endE_slice (ρ : Num) (m : Nat) : ∃ a n, endE ρ m = .slice a 0 n := by
  unfold endE endV
  split
  · exact ⟨_, _, rfl⟩
  · exact ⟨_, _, rfl⟩

mutual
/-- What an abstract value stands for. -/
def rv (ρ : Num) : Value → Value
  | .chan (some m) => endE ρ m
  | .pointer (some a) => .pointer (rAddr ρ a)
  | .slice (some a) n c => rSl ρ a n c
  | .map (some r) => .map (ρ r)
  | .func fn f c => .func (rFn ρ fn) (rvA ρ f) (rvA ρ c)
  | .iface t v => .iface t (rv ρ v)
  | .agg cs => .agg (rvA ρ cs)
  | .tuple vs => .tuple (rvA ρ vs)
  | .bool b => .bool b
  | .int k n => .int k n
  | .float k n => .float k n
  | .complex k a b => .complex k a b
  | .string s => .string s
  | .pointer none => .pointer none
  | .slice none n c => .slice none n c
  | .map none => .map none
  | .chan none => .chan none
  | .nilFunc => .nilFunc
  | .nilIface => .nilIface
def rvA (ρ : Num) : Array Value → Array Value
  | ⟨l⟩ => ⟨rvL ρ l⟩
def rvL (ρ : Num) : List Value → List Value
  | [] => []
  | v :: l => rv ρ v :: rvL ρ l
end

mutual
/-- No block is named in it. -/
def pureV : Value → Bool
  | .pointer (some _) => false
  | .slice (some _) _ _ => false
  | .map (some _) => false
  | .func fn f c => !(isYield fn) && pureA f && pureA c
  | .iface _ v => pureV v
  | .agg cs => pureA cs
  | .tuple vs => pureA vs
  | .bool _ => true
  | .int _ _ => true
  | .float _ _ => true
  | .complex _ _ _ => true
  | .string _ => true
  | .pointer none => true
  | .slice none _ _ => true
  | .map none => true
  | .chan _ => false
  | .nilFunc => true
  | .nilIface => true
def pureA : Array Value → Bool
  | ⟨l⟩ => pureL l
def pureL : List Value → Bool
  | [] => true
  | v :: l => pureV v && pureL l
end

theorem rvL_eq (ρ : Num) (l : List Value) : rvL ρ l = l.map (rv ρ) := by
  induction l with
  | nil => simp [rvL]
  | cons v l ih => simp [rvL, ih]
theorem rvA_eq (ρ : Num) (a : Array Value) : rvA ρ a = a.map (rv ρ) := by
  cases a; simp [rvA, rvL_eq]
theorem pureL_eq (l : List Value) : pureL l = l.all pureV := by
  induction l with
  | nil => simp [pureL]
  | cons v l ih => simp [pureL, ih]

mutual
theorem rv_pure (ρ : Num) : ∀ v : Value, pureV v = true → rv ρ v = v
  | .pointer (some _), h => by simp [pureV] at h
  | .slice (some _) _ _, h => by simp [pureV] at h
  | .map (some _), h => by simp [pureV] at h
  | .func fn f c, h => by
      simp only [pureV, Bool.and_eq_true, Bool.not_eq_true'] at h
      simp only [rv, rvA_pure ρ f h.1.2, rvA_pure ρ c h.2, rFn_plain ρ fn h.1.1]
  | .iface t v, h => by simp only [pureV] at h; simp only [rv, rv_pure ρ v h]
  | .agg cs, h => by simp only [pureV] at h; simp only [rv, rvA_pure ρ cs h]
  | .tuple vs, h => by simp only [pureV] at h; simp only [rv, rvA_pure ρ vs h]
  | .bool b, _ => by simp only [rv]
  | .int k n, _ => by simp only [rv]
  | .float k n, _ => by simp only [rv]
  | .complex k a b, _ => by simp only [rv]
  | .string s, _ => by simp only [rv]
  | .pointer none, _ => by simp only [rv]
  | .slice none n c, _ => by simp only [rv]
  | .map none, _ => by simp only [rv]
  | .chan _, h => by simp only [pureV] at h; cases h
  | .nilFunc, _ => by simp only [rv]
  | .nilIface, _ => by simp only [rv]
theorem rvA_pure (ρ : Num) : ∀ v : Array Value, pureA v = true → rvA ρ v = v
  | ⟨l⟩, h => by simp only [pureA] at h; simp only [rvA, rvL_pure ρ l h]
theorem rvL_pure (ρ : Num) : ∀ v : List Value, pureL v = true → rvL ρ v = v
  | [], _ => by simp only [rvL]
  | v :: l, h => by
      simp only [pureL, Bool.and_eq_true] at h
      simp only [rvL, rv_pure ρ v h.1, rvL_pure ρ l h.2]
end

theorem rSl_slice (ρ : Num) (a : Addr) (n c : Nat) : ∃ x m, rSl ρ a n c = .slice x n m := by
  unfold rSl
  split
  · exact ⟨_, _, rfl⟩
  · split
    · exact ⟨_, _, rfl⟩
    · exact ⟨_, _, rfl⟩

theorem rSl_plain (ρ : Num) (j off n c : Nat) : rSl ρ ⟨j, off, none⟩ n c = .slice (rAddr ρ ⟨j, off, none⟩) n c := rfl

theorem rv_cells (ρ : Num) (v : Value) : (rv ρ v).cells = v.cells.map (rv ρ) := by
  unfold Value.cells
  cases v with
  | agg cs => simp [rv, rvA_eq]
  | pointer a => cases a <;> simp [rv]
  | slice a n c =>
    cases a with
    | none => simp [rv]
    | some a =>
      obtain ⟨x, m, e⟩ := rSl_slice ρ a n c
      simp [rv, e]
  | map a => cases a <;> simp [rv]
  | chan a =>
    cases a with
    | none => simp [rv]
    | some m =>
      obtain ⟨x, q, e⟩ := endE_slice ρ m
      simp [rv, e]
  | _ => simp [rv]

/-! Which numbers occur. -/

def allFn (p : Nat → Bool) : Fn → Bool
  | .yield l => p l
  | _ => true

mutual
/-- All numbers in it are such. -/
def allV (p : Nat → Bool) : Value → Bool
  | .pointer (some a) => p a.block
  | .slice (some ⟨j, _, none⟩) _ _ => p j
  | .slice (some ⟨j, _, some k⟩) _ _ => p j && p k
  | .map (some r) => p r
  | .chan (some m) => p (m / 18446744073709551616 / 18446744073709551616 / 18446744073709551616 / 18446744073709551616) && p (m / 18446744073709551616 / 18446744073709551616 / 18446744073709551616 % 18446744073709551616)
  | .func fn f c => allFn p fn && allA p f && allA p c
  | .iface _ v => allV p v
  | .agg cs => allA p cs
  | .tuple vs => allA p vs
  | _ => true
def allA (p : Nat → Bool) : Array Value → Bool
  | ⟨l⟩ => allL p l
def allL (p : Nat → Bool) : List Value → Bool
  | [] => true
  | v :: l => allV p v && allL p l
end

theorem rFn_all {ρ ρ' : Num} {p : Nat → Bool} (h : ∀ j, p j = true → ρ' j = ρ j) (f : Fn) (hf : allFn p f = true) : rFn ρ' f = rFn ρ f := by
  cases f <;> first | rfl | skip
  rename_i l
  simp only [allFn] at hf
  simp only [rFn, h l hf]

mutual
theorem rv_all {ρ ρ' : Num} {p : Nat → Bool} (h : ∀ j, p j = true → ρ' j = ρ j) : ∀ v : Value, allV p v = true → rv ρ' v = rv ρ v
  | .pointer (some a), hv => by simp only [allV] at hv; simp only [rv, rAddr, h _ hv]
  | .slice (some ⟨j, off, none⟩) _ _, hv => by simp only [allV] at hv; simp only [rv, rSl, rAddr, h _ hv]
  | .slice (some ⟨j, off, some k⟩) _ _, hv => by simp only [allV, Bool.and_eq_true] at hv; simp only [rv, rSl, h _ hv.1, h _ hv.2]
  | .map (some r), hv => by simp only [allV] at hv; simp only [rv, h _ hv]
  | .func fn f c, hv => by
      simp only [allV, Bool.and_eq_true] at hv
      simp only [rv, rFn_all h fn hv.1.1, rvA_all h f hv.1.2, rvA_all h c hv.2]
  | .iface t v, hv => by simp only [allV] at hv; simp only [rv, rv_all h v hv]
  | .agg cs, hv => by simp only [allV] at hv; simp only [rv, rvA_all h cs hv]
  | .tuple vs, hv => by simp only [allV] at hv; simp only [rv, rvA_all h vs hv]
  | .bool _, _ => by simp only [rv]
  | .int _ _, _ => by simp only [rv]
  | .float _ _, _ => by simp only [rv]
  | .complex _ _ _, _ => by simp only [rv]
  | .string _, _ => by simp only [rv]
  | .pointer none, _ => by simp only [rv]
  | .slice none _ _, _ => by simp only [rv]
  | .map none, _ => by simp only [rv]
  | .chan none, _ => by simp only [rv]
  | .chan (some m), hv => by simp only [allV, Bool.and_eq_true] at hv; simp only [rv, endE, h _ hv.1, h _ hv.2]
  | .nilFunc, _ => by simp only [rv]
  | .nilIface, _ => by simp only [rv]
theorem rvA_all {ρ ρ' : Num} {p : Nat → Bool} (h : ∀ j, p j = true → ρ' j = ρ j) : ∀ v : Array Value, allA p v = true → rvA ρ' v = rvA ρ v
  | ⟨l⟩, hv => by simp only [allA] at hv; simp only [rvA, rvL_all h l hv]
theorem rvL_all {ρ ρ' : Num} {p : Nat → Bool} (h : ∀ j, p j = true → ρ' j = ρ j) : ∀ v : List Value, allL p v = true → rvL ρ' v = rvL ρ v
  | [], _ => by simp only [rvL]
  | v :: l, hv => by
      simp only [allL, Bool.and_eq_true] at hv
      simp only [rvL, rv_all h v hv.1, rvL_all h l hv.2]
end

end
end Go.Proofs.YtaopinmjgjpiiaaGreatDoor.Ev

/-
  The evaluator, part B: abstract memory, its relation to the world, and the operations that read, lay and write cells of the call's own.
-/
namespace Go.Proofs.YtaopinmjgjpiiaaGreatDoor.Ev
open Go Go.RowKit
noncomputable section

/-- What lies in a row: values; or whole numbers of a kind, how many soever. -/
inductive Row where
  | vals (xs : List Value)
  | ints (k : IntKind) (ns : List Int)

def Row.list : Row → List Value
  | .vals xs => xs
  | .ints k ns => ns.map (.int k)

/-- What is known of a block. -/
inductive AObj where
  | row (e : TypeId) (sz : Nat) (r : Row) (k : Nat)
  | cells (cs : List Value) (t : TypeId)
  | iter (s : ByteArray) (pos : Nat)
  | ints (k : IntKind) (xs : List Int)
  | loop (st : LoopState) (pn : Option Code) (ts : List (Option Value)) (ps : List Nat) (asg : Code) (bd : Code)
  | defr
  | dead
  | ro (xs : List Value)
  | map (es : List (Value × Value))
  | fam (f : Nat → Value) (n sz o : Nat)

def AObj.rw : AObj → Bool
  | .row _ _ _ _ => true
  | .cells _ _ => true
  | .iter _ _ => true
  | .ints _ _ => false
  | .loop _ _ _ _ _ _ => true
  | .defr => true
  | .dead => true
  | .ro _ => false
  | .map _ => true
  | .fam _ _ _ _ => false

/-- A map's entries stand for these. -/
def mapIs (ρ : Num) (mes : Array MapEntry) (es : List (Value × Value)) : Prop := mes.toList.map (fun e => (e.key, e.val)) = es.map fun p => (rv ρ p.1, rv ρ p.2)

abbrev Heap := List (Nat × AObj)

def Heap.get : Heap → Nat → Option AObj
  | [], _ => none
  | (j, o) :: r, i => match Nat.beq j i with
    | true => some o
    | false => Heap.get r i

def Heap.set : Heap → Nat → AObj → Heap
  | [], _, _ => []
  | (j, o') :: r, i, o => match Nat.beq j i with
    | true => (j, o) :: r
    | false => (j, o') :: Heap.set r i o

theorem beq_false {a b : Nat} (h : a ≠ b) : Nat.beq a b = false := by
  cases h' : Nat.beq a b
  · rfl
  · exact absurd (Nat.eq_of_beq_eq_true h') h

theorem Heap.get_cons (j : Nat) (o : AObj) (H : Heap) (i : Nat) : Heap.get ((j, o) :: H) i = if j = i then some o else H.get i := by
  by_cases h : j = i
  · subst h; simp [Heap.get]
  · have : Nat.beq j i = false := beq_false h
    rw [if_neg h, Heap.get, this]

theorem Heap.get_set (H : Heap) (i : Nat) (o o0 : AObj) (h : H.get i = some o0) (j : Nat) : (H.set i o).get j = if i = j then some o else H.get j := by
  induction H with
  | nil => simp [Heap.get] at h
  | cons x H ih =>
    obtain ⟨k, q⟩ := x
    rw [Heap.get_cons] at h
    unfold Heap.set
    by_cases hk : k = i
    · subst hk
      simp only [Nat.beq_refl]
      rw [Heap.get_cons, Heap.get_cons]
      split <;> rfl
    · have hb : Nat.beq k i = false := beq_false hk
      rw [if_neg hk] at h
      simp only [hb]
      rw [Heap.get_cons, Heap.get_cons, ih h]
      by_cases hkj : k = j
      · subst hkj
        rw [if_pos rfl, if_pos rfl, if_neg (fun e => hk e.symm)]
      · rw [if_neg hkj, if_neg hkj]

/-- Cells, of which none is shared with a text: the frozen range lies behind them. -/
def RowAt (w : World) (b : Nat) (cur : Array Value) (e : TypeId) : Prop := ∃ fr, w.heap[b]? = some (.cells cur e fr) ∧ (fr.2 = 0 ∨ cur.size ≤ fr.1)

theorem RowAt.to {w w' : World} {b : Nat} {cur : Array Value} {e : TypeId} (h : RowAt w b cur e) (hb : w'.heap[b]? = w.heap[b]?) : RowAt w' b cur e := by
  obtain ⟨fr, h1, h2⟩ := h
  exact ⟨fr, hb.trans h1, h2⟩

theorem RowAt.lt {w : World} {b : Nat} {cur : Array Value} {e : TypeId} (h : RowAt w b cur e) : b < w.heap.size := by
  obtain ⟨fr, h1, _⟩ := h
  exact (Array.getElem?_eq_some_iff.1 h1).1

theorem RowAt.of {w : World} {b : Nat} {cur : Array Value} {e : TypeId} (h : w.heap[b]? = some (.cells cur e (0, 0))) : RowAt w b cur e := ⟨_, h, .inl rfl⟩

def ORep (B : Nat) (M : Nat → Prop) (ρ : Num) (w : World) (ob : Option Nat) : AObj → Prop
  | .row e sz r k => (ob = none ∧ r.list = []) ∨ ∃ b cap cur, ob = some b ∧ ρ k = some cap ∧ RowAt w b cur e ∧ (B ≤ b ∨ M b) ∧ cap ≤ maxLen ∧ cur.size = cap * sz ∧ r.list.length ≤ cap * sz ∧ cur.toList.take r.list.length = rvL ρ r.list
  | .cells cs t => ∃ b, ob = some b ∧ w.heap[b]? = some (.cells (rvL ρ cs).toArray t (0, 0)) ∧ (B ≤ b ∨ M b)
  | .iter s pos => ∃ b, ob = some b ∧ w.heap[b]? = some (.stringIter s pos) ∧ (B ≤ b ∨ M b)
  | .ints k xs => (ob = none ∧ xs = []) ∨ ∃ b cs t fr, ob = some b ∧ w.heap[b]? = some (.cells cs t fr) ∧ ∀ i, i < xs.length → cs[i]? = some (.int k (xs.getD i 0))
  | .loop st pn ts ps asg bd => ∃ b r, ob = some b ∧ w.heap[b]? = some (.loop r) ∧ (r.state = st ∧ r.pending = pn ∧ r.params = ⟨ps⟩ ∧ r.assign = asg ∧ r.body = bd ∧ r.tmps.size = ts.length ∧ ∀ t x, ts[t]? = some (some x) → r.tmps.getD t undef = rv ρ x) ∧ (B ≤ b ∨ M b)
  | .defr => ∃ b, ob = some b ∧ w.heap[b]? = some (.deferred (some [])) ∧ (B ≤ b ∨ M b)
  | .dead => ∃ b o, ob = some b ∧ w.heap[b]? = some o ∧ (B ≤ b ∨ M b)
  | .ro xs => (ob = none ∧ xs = []) ∨ ∃ b cs t fr, ob = some b ∧ w.heap[b]? = some (.cells cs t fr) ∧ ∀ (i : Nat) (v : Value), (rvL ρ xs)[i]? = some v → cs[i]? = some v
  | .map es => ∃ b mes ck, ob = some b ∧ w.heap[b]? = some (.map mes ck) ∧ mapIs ρ mes es ∧ (B ≤ b ∨ M b)
  | .fam f n sz o => (ob = none ∧ n = 0) ∨ ∃ b cs t fr, ob = some b ∧ w.heap[b]? = some (.cells cs t fr) ∧ ∀ i, i < n → (f i).cells.toList.length = sz ∧ pureV (f i) = true ∧ ∀ (j : Nat) (v : Value), (f i).cells.toList[j]? = some v → cs[o + i * sz + j]? = some v

structure Sim (P : Program) (B : Nat) (M : Nat → Prop) (ρ : Num) (H : Heap) (w : World) : Prop where
  glob : ∀ g, g < P.globals.size → ρ g = some g
  obj : ∀ i o, H.get i = some o → ORep B M ρ w (ρ i) o
  inj : ∀ i j o o', H.get i = some o → o.rw = true → H.get j = some o' → i ≠ j → ρ i ≠ none → ρ i ≠ ρ j

/-- Nothing of old has turned but blocks of M. -/
structure Keeps (B : Nat) (M : Nat → Prop) (w w' : World) : Prop where
  os : w'.os = w.os
  tape : w'.tape = w.tape
  output : w'.output = w.output
  size : w.heap.size ≤ w'.heap.size
  block : ∀ k, k < B → ¬ M k → w'.heap[k]? = w.heap[k]?

theorem Keeps.refl (B : Nat) (M : Nat → Prop) (w : World) : Keeps B M w w := ⟨rfl, rfl, rfl, Nat.le_refl _, fun _ _ _ => rfl⟩
theorem Keeps.trans {B : Nat} {M : Nat → Prop} {a b c : World} (h : Keeps B M a b) (k : Keeps B M b c) : Keeps B M a c :=
  ⟨k.os.trans h.os, k.tape.trans h.tape, k.output.trans h.output, Nat.le_trans h.size k.size, fun i hi hm => (k.block i hi hm).trans (h.block i hi hm)⟩
theorem Keeps.of_below {B : Nat} {M : Nat → Prop} {w w' : World} (h : Below w.heap.size w w') (hB : B ≤ w.heap.size) : Keeps B M w w' :=
  ⟨h.os, h.tape, h.output, h.size, fun k hk _ => h.block k (by omega)⟩
theorem Keeps.below {B : Nat} {w w' : World} (h : Keeps B (fun _ => False) w w') : Below B w w' :=
  ⟨h.os, h.tape, h.output, h.size, fun k hk => h.block k hk (fun f => f)⟩

theorem getElem?_lt_size {w : World} {b : Nat} {o : Obj} (h : w.heap[b]? = some o) : b < w.heap.size := (Array.getElem?_eq_some_iff.1 h).1

theorem ORep.below {B : Nat} {M : Nat → Prop} {ρ : Num} {w w' : World} {ob : Option Nat} {o : AObj} (h : ORep B M ρ w ob o) (hb : Below w.heap.size w w') : ORep B M ρ w' ob o := by
  cases o with
  | row e sz r k =>
    rcases h with h | ⟨b, cap, cur, h1, h2, h3, h4⟩
    · exact .inl h
    · exact .inr ⟨b, cap, cur, h1, h2, h3.to (hb.block b h3.lt), h4⟩
  | cells cs t => obtain ⟨b, h1, h2, h3⟩ := h; exact ⟨b, h1, (hb.block b (getElem?_lt_size h2)).trans h2, h3⟩
  | iter s pos => obtain ⟨b, h1, h2, h3⟩ := h; exact ⟨b, h1, (hb.block b (getElem?_lt_size h2)).trans h2, h3⟩
  | ints k xs =>
    rcases h with h | ⟨b, cs, t, fr, h1, h2, h3⟩
    · exact .inl h
    · exact .inr ⟨b, cs, t, fr, h1, (hb.block b (getElem?_lt_size h2)).trans h2, h3⟩
  | loop st pn ts ps asg bd => obtain ⟨b, r, h1, h2, h3⟩ := h; exact ⟨b, r, h1, (hb.block b (getElem?_lt_size h2)).trans h2, h3⟩
  | defr => obtain ⟨b, h1, h2, h3⟩ := h; exact ⟨b, h1, (hb.block b (getElem?_lt_size h2)).trans h2, h3⟩
  | dead => obtain ⟨b, o, h1, h2, h3⟩ := h; exact ⟨b, o, h1, (hb.block b (getElem?_lt_size h2)).trans h2, h3⟩
  | ro xs =>
    rcases h with h | ⟨b, cs, t, fr, h1, h2, h3⟩
    · exact .inl h
    · exact .inr ⟨b, cs, t, fr, h1, (hb.block b (getElem?_lt_size h2)).trans h2, h3⟩
  | map es => obtain ⟨b, mes, ck, h1, h2, h3⟩ := h; exact ⟨b, mes, ck, h1, (hb.block b (getElem?_lt_size h2)).trans h2, h3⟩
  | fam f n sz o =>
    rcases h with h | ⟨b, cs, t, fr, h1, h2, h3⟩
    · exact .inl h
    · exact .inr ⟨b, cs, t, fr, h1, (hb.block b (getElem?_lt_size h2)).trans h2, h3⟩

theorem Sim.below {P : Program} {B : Nat} {M : Nat → Prop} {ρ : Num} {H : Heap} {w w' : World} (h : Sim P B M ρ H w) (hb : Below w.heap.size w w') : Sim P B M ρ H w' :=
  ⟨h.glob, fun i o hi => (h.obj i o hi).below hb, h.inj⟩

/-- A block of a known object lies in the heap. -/
theorem ORep.lt {B : Nat} {M : Nat → Prop} {ρ : Num} {w : World} {b : Nat} {o : AObj} (h : ORep B M ρ w (some b) o) : b < w.heap.size := by
  cases o with
  | row e sz r k =>
    rcases h with ⟨h, _⟩ | ⟨b', cap, cur, h1, h2, h3, _⟩
    · cases h
    · cases h1; exact h3.lt
  | cells cs t => obtain ⟨b', h1, h2, _⟩ := h; cases h1; exact getElem?_lt_size h2
  | iter s pos => obtain ⟨b', h1, h2, _⟩ := h; cases h1; exact getElem?_lt_size h2
  | ints k xs =>
    rcases h with ⟨h, _⟩ | ⟨b', cs, t, fr, h1, h2, _⟩
    · cases h
    · cases h1; exact getElem?_lt_size h2
  | loop st pn ts ps asg bd => obtain ⟨b', r, h1, h2, _⟩ := h; cases h1; exact getElem?_lt_size h2
  | defr => obtain ⟨b', h1, h2, _⟩ := h; cases h1; exact getElem?_lt_size h2
  | dead => obtain ⟨b', o, h1, h2, _⟩ := h; cases h1; exact getElem?_lt_size h2
  | ro xs =>
    rcases h with ⟨h, _⟩ | ⟨b', cs, t, fr, h1, h2, _⟩
    · cases h
    · cases h1; exact getElem?_lt_size h2
  | map es => obtain ⟨b', mes, ck, h1, h2, _⟩ := h; cases h1; exact getElem?_lt_size h2
  | fam f n sz o =>
    rcases h with ⟨h, _⟩ | ⟨b', cs, t, fr, h1, h2, _⟩
    · cases h
    · cases h1; exact getElem?_lt_size h2

/-- A new block under a new number. -/
theorem Sim.new {P : Program} {B : Nat} {M : Nat → Prop} {ρ : Num} {H : Heap} {w : World} (h : Sim P B M ρ H w) {n : Nat} (hn : ρ n = some w.heap.size) {ob : Obj} {o : AObj}
    (ho : ORep B M ρ (w.alloc ob) (some w.heap.size) o) : Sim P B M ρ ((n, o) :: H) (w.alloc ob) := by
  have hb : Below w.heap.size w (w.alloc ob) := (Below.refl _ _).alloc (Nat.le_refl _) _
  refine ⟨h.glob, fun i o' hi => ?_, fun i j oi oj hi hr hj hij hne => ?_⟩
  · rw [Heap.get_cons] at hi
    split at hi
    · rename_i e; subst e; cases hi; rw [hn]; exact ho
    · exact (h.obj i o' hi).below hb
  · rw [Heap.get_cons] at hi hj
    split at hi <;> split at hj
    · rename_i e1 e2; exact absurd (e1.symm.trans e2) hij
    · rename_i e1 e2; subst e1
      intro e
      have := h.obj j oj hj
      rw [← e, hn] at this
      exact absurd this.lt (Nat.lt_irrefl _)
    · rename_i e1 e2; subst e2
      intro e
      have := h.obj i oi hi
      rw [e, hn] at this
      exact absurd this.lt (Nat.lt_irrefl _)
    · exact h.inj i j oi oj hi hr hj hij hne

/-- Another content of a block that is one's own. -/
theorem Sim.turn {P : Program} {B : Nat} {M : Nat → Prop} {ρ : Num} {H : Heap} {w w' : World} (h : Sim P B M ρ H w) {n b : Nat} {o0 o : AObj} (h0 : H.get n = some o0) (hr : o0.rw = true) (hn : ρ n = some b)
    (ho : ORep B M ρ w' (some b) o) (hk : ∀ k, k ≠ b → w'.heap[k]? = w.heap[k]?) : Sim P B M ρ (H.set n o) w' := by
  refine ⟨h.glob, fun i o' hi => ?_, fun i j oi oj hi hri hj hij hne => ?_⟩
  · rw [Heap.get_set H n o o0 h0] at hi
    split at hi
    · rename_i e; subst e; cases hi; rw [hn]; exact ho
    · rename_i hne
      have hold := h.obj i o' hi
      have hd : ∀ b', ρ i = some b' → b' ≠ b := fun b' hb' e => by
        subst e
        exact h.inj n i o0 o' h0 hr hi hne (by rw [hn]; simp) (hn.trans hb'.symm)
      cases o' with
      | row e sz r k =>
        rcases hold with hold | ⟨b', cap, cur, h1, h2, h3, h4⟩
        · exact .inl hold
        · exact .inr ⟨b', cap, cur, h1, h2, h3.to (hk b' (hd b' h1)), h4⟩
      | cells cs t => obtain ⟨b', h1, h2, h3⟩ := hold; exact ⟨b', h1, (hk b' (hd b' h1)).trans h2, h3⟩
      | iter s pos => obtain ⟨b', h1, h2, h3⟩ := hold; exact ⟨b', h1, (hk b' (hd b' h1)).trans h2, h3⟩
      | ints k xs =>
        rcases hold with hold | ⟨b', cs, t, fr, h1, h2, h3⟩
        · exact .inl hold
        · exact .inr ⟨b', cs, t, fr, h1, (hk b' (hd b' h1)).trans h2, h3⟩
      | loop st pn ts ps asg bd => obtain ⟨b', r, h1, h2, h3⟩ := hold; exact ⟨b', r, h1, (hk b' (hd b' h1)).trans h2, h3⟩
      | defr => obtain ⟨b', h1, h2, h3⟩ := hold; exact ⟨b', h1, (hk b' (hd b' h1)).trans h2, h3⟩
      | dead => obtain ⟨b', q, h1, h2, h3⟩ := hold; exact ⟨b', q, h1, (hk b' (hd b' h1)).trans h2, h3⟩
      | ro xs =>
        rcases hold with hold | ⟨b', cs, t, fr, h1, h2, h3⟩
        · exact .inl hold
        · exact .inr ⟨b', cs, t, fr, h1, (hk b' (hd b' h1)).trans h2, h3⟩
      | map es => obtain ⟨b', mes, ck, h1, h2, h3⟩ := hold; exact ⟨b', mes, ck, h1, (hk b' (hd b' h1)).trans h2, h3⟩
      | fam f n sz o =>
        rcases hold with hold | ⟨b', cs, t, fr, h1, h2, h3⟩
        · exact .inl hold
        · exact .inr ⟨b', cs, t, fr, h1, (hk b' (hd b' h1)).trans h2, h3⟩
  · rw [Heap.get_set H n o o0 h0] at hi hj
    split at hi <;> split at hj
    · rename_i e1 e2; exact absurd (e1.symm.trans e2) hij
    · rename_i e1 e2; subst e1; exact h.inj n j o0 oj h0 hr hj hij hne
    · rename_i e1 e2; subst e2; exact h.inj i n oi o0 hi hri h0 hij hne
    · exact h.inj i j oi oj hi hri hj hij hne

/-- Less known of memory. -/
theorem Sim.less {P : Program} {B : Nat} {M : Nat → Prop} {ρ : Num} {H H' : Heap} {w : World} (h : Sim P B M ρ H w) (hh : ∀ i o, H'.get i = some o → H.get i = some o) : Sim P B M ρ H' w :=
  ⟨h.glob, fun i o hi => h.obj i o (hh i o hi), fun i j oi oj hi hr hj hij hne => h.inj i j oi oj (hh i oi hi) hr (hh j oj hj) hij hne⟩

def allP : List Prop → Prop
  | [] => True
  | p :: l => p ∧ allP l

theorem allP_append (a b : List Prop) : allP (a ++ b) ↔ allP a ∧ allP b := by
  induction a with
  | nil => simp [allP]
  | cons p a ih => simp [allP, ih, and_assoc]

/-- What must hold: asked at once, or put on the list. -/
def need (auto : Bool) (p : Prop) [Decidable p] : Option (List Prop) :=
  match auto with
  | true => if p then some [] else none
  | false => some [p]

theorem need_sound {auto : Bool} {p : Prop} [Decidable p] {l : List Prop} (h : need auto p = some l) (hl : allP l) : p := by
  unfold need at h
  split at h
  · split at h
    · assumption
    · cases h
  · cases h; exact hl.1

def aggT : TypeDesc → Bool
  | .struct _ => true
  | .array _ _ => true
  | _ => false

theorem run_isAgg' {P : Program} {t : TypeId} {d : TypeDesc} (h : P.underlying t = some d) (w : World) : (isAgg t).run P w = .ok (aggT d) w := by
  cases d <;> simp [isAgg, run_underlying h, aggT]

theorem run_sizeOf' {P : Program} {t : TypeId} {i : TypeInfo} (h : P.info? t = some i) (w : World) : (sizeOf t).run P w = .ok i.size w := by
  simp [sizeOf, typeInfo, h]

theorem addr_add (b o n : Nat) : (⟨b, o, none⟩ : Addr).add n = ⟨b, o + n, none⟩ := by
  unfold Addr.add; split <;> simp_all

def intsAt (k : IntKind) (ns : List Int) : Nat → Nat → List Value
  | _, 0 => []
  | off, n + 1 => .int k (ns.getD off 0) :: intsAt k ns (off + 1) n

/-- Other cells, as many. -/
theorem RowAt.set {w : World} {b : Nat} {cur : Array Value} {e : TypeId} (h : RowAt w b cur e) (new : Array Value) (hs : new.size = cur.size) : RowAt (w.setRow b new) b new e := by
  obtain ⟨fr, h1, h2⟩ := h
  exact ⟨fr, setRow_heap w b _ _ e fr h1, by rw [hs]; exact h2⟩

theorem run_storeCells_free (P : Program) (g o : Nat) (t : TypeId) : ∀ (vs : List Value) (i : Nat) (cur : Array Value) (w : World), RowAt w g cur t → o + i + vs.length ≤ cur.size → (∀ v ∈ vs, v.oneCell' = true) →
    (storeCells ⟨g, o, none⟩ vs i).run P w = .ok () (w.setRow g (cur.toList.take (o + i) ++ vs ++ cur.toList.drop (o + i + vs.length)).toArray)
  | [], i, cur, w, hg, _, _ => by
    obtain ⟨fz, hg, _⟩ := hg
    simp only [storeCells, List.append_nil, List.length_nil, Nat.add_zero, List.take_append_drop, Array.toArray_toList]
    rw [setRow_self w g cur t fz hg]
    rfl
  | v :: rest, i, cur, w, hg, hl, h1 => by
    have hgs := hg.set (cur.setIfInBounds (o + i) v) (by simp)
    obtain ⟨fz, hg, hfz⟩ := hg
    have hi : o + i < cur.size := by simp at hl; omega
    have hadd : (⟨g, o, none⟩ : Addr).add i = ⟨g, o + i, none⟩ := addr_add g o i
    have hcell : w.cell? ⟨g, o + i, none⟩ = some cur[o + i] := by simp [World.cell?, hg, hi]
    have hfro : w.frozen? ⟨g, o + i, none⟩ = false := by
      obtain ⟨lo, hi'⟩ := fz
      simp only [World.frozen?, hg, Bool.and_eq_false_iff, decide_eq_false_iff_not]
      simp only at hfz
      omega
    have hst : (store ((⟨g, o, none⟩ : Addr).add i) v).run P w = .ok () (w.setRow g (cur.setIfInBounds (o + i) v)) := by
      rw [hadd, run_store P w _ v _ (h1 v (by simp)), hcell]
      simp [hfro, setCell_eq_setRow w g (o + i) cur t fz v hg]
    have ih := run_storeCells_free P g o t rest (i + 1) (cur.setIfInBounds (o + i) v) (w.setRow g (cur.setIfInBounds (o + i) v)) hgs (by simp at hl ⊢; omega) (fun x hx => h1 x (by simp [hx]))
    simp only [storeCells, Sem.run_bind, hst, Result.andThen_ok, ih, setRow_setRow]
    congr 3
    have e := list_seg_step cur.toList (o + i) v rest (by simp at hl ⊢; omega)
    simpa [Array.toList_setIfInBounds, Nat.add_assoc] using e

/-- Which of a family's elements lies there; is it one? -/
def famAt (off o sz : Nat) : Nat := (off - o) / sz
def FamIn (off o sz n : Nat) : Prop := o ≤ off ∧ (off - o) % sz = 0 ∧ famAt off o sz < n
instance famInDec (off o sz n : Nat) : Decidable (FamIn off o sz n) := inferInstanceAs (Decidable (o ≤ off ∧ (off - o) % sz = 0 ∧ famAt off o sz < n))
theorem FamIn.eq {off o sz n : Nat} (h : FamIn off o sz n) : off = o + famAt off o sz * sz := by
  obtain ⟨h1, h2, _⟩ := h
  unfold famAt
  have := Nat.div_add_mod (off - o) sz
  rw [Nat.mul_comm]
  omega
theorem famIn_mul {o i sz n : Nat} (hs : 0 < sz) (h : i < n) : FamIn (o + i * sz) o sz n := by
  refine ⟨by omega, by rw [Nat.add_sub_cancel_left, Nat.mul_mod_left], ?_⟩
  unfold famAt
  rw [Nat.add_sub_cancel_left, Nat.mul_div_cancel _ hs]
  exact h
theorem famAt_mul {o i sz : Nat} (hs : 0 < sz) : famAt (o + i * sz) o sz = i := by
  unfold famAt
  rw [Nat.add_sub_cancel_left, Nat.mul_div_cancel _ hs]

def evFam (P : Program) (auto : Bool) (t : TypeId) (agg : Bool) (f : Nat → Value) (n sz o off : Nat) : Option (Value × List Prop) :=
  match agg with
  | true => match infF P t with
    | none => none
    | some i => match Nat.beq i.size sz && Nat.blt 0 sz, f (famAt off o sz) with
      | true, .agg xs => match need auto (FamIn off o sz n) with
        | some l => some (.agg xs, l)
        | none => none
      | _, _ => none
  | false => match Nat.beq sz 1 with
    | true => match f (famAt off o sz) with
      | .agg _ => none
      | .tuple _ => none
      | v => match need auto (FamIn off o sz n) with
        | some l => some (v, l)
        | none => none
    | false => none

/-- A variable is read. -/
def evLoad (P : Program) (auto : Bool) (H : Heap) (t : TypeId) (x : Value) : Option (Value × List Prop) :=
  match x with
  | .pointer (some ⟨id, off, none⟩) =>
    match undF P t with
    | none => none
    | some d =>
      match H.get id with
      | some (.cells cs _) =>
        match aggT d with
        | true => match infF P t with
          | some i => match Nat.ble (off + i.size) cs.length with
            | true => some (.agg ⟨(cs.drop off).take i.size⟩, [])
            | false => none
          | none => none
        | false => match cs[off]? with
          | some v => some (v, [])
          | none => none
      | some (.ints k xs) =>
        match aggT d with
        | true => match infF P t with
          | none => none
          | some i => match Nat.blt 0 i.size, need auto (off + i.size ≤ xs.length) with
            | true, some l => some (.agg ⟨intsAt k xs off i.size⟩, l)
            | _, _ => none
        | false => match need auto (off < xs.length) with
          | some l => some (.int k (xs.getD off 0), l)
          | none => none
      | some (.row _ _ r _) =>
        match aggT d with
        | true => match infF P t with
          | none => none
          | some i => match r with
            | .vals xs => match Nat.ble (off + i.size) xs.length && Nat.blt 0 i.size with
              | true => some (.agg ⟨(xs.drop off).take i.size⟩, [])
              | false => none
            | .ints k ns => match Nat.blt 0 i.size, need auto (off + i.size ≤ ns.length) with
              | true, some l => some (.agg ⟨intsAt k ns off i.size⟩, l)
              | _, _ => none
        | false => match r with
          | .vals xs => match xs[off]? with
            | some v => some (v, [])
            | none => none
          | .ints k ns => match need auto (off < ns.length) with
            | some l => some (.int k (ns.getD off 0), l)
            | none => none
      | some (.ro xs) =>
        match aggT d with
        | true => match infF P t with
          | none => none
          | some i => match Nat.ble (off + i.size) xs.length && Nat.blt 0 i.size with
            | true => some (.agg ⟨(xs.drop off).take i.size⟩, [])
            | false => none
        | false => match xs[off]? with
          | some v => some (v, [])
          | none => none
      | some (.fam f n sz o) => evFam P auto t (aggT d) f n sz o off
      | _ => none
  | _ => none

theorem intsAt_eq (k : IntKind) (ns : List Int) : ∀ (n off : Nat), off + n ≤ ns.length → intsAt k ns off n = ((ns.map (Value.int k)).drop off).take n
  | 0, off, _ => by simp [intsAt]
  | n + 1, off, h => by
    unfold intsAt
    rw [intsAt_eq k ns n (off + 1) (by omega)]
    have hlt : off < (ns.map (Value.int k)).length := by simp; omega
    rw [List.drop_eq_getElem_cons hlt, List.take_succ_cons]
    congr 1
    simp [List.getD, show off < ns.length by omega]

/-- A row's block, if something lies in it. -/
theorem ORep.row_some {B : Nat} {M : Nat → Prop} {ρ : Num} {w : World} {ob : Option Nat} {e : TypeId} {sz k : Nat} {r : Row} (h : ORep B M ρ w ob (.row e sz r k)) (hne : 0 < r.list.length) :
    ∃ b cap cur, ob = some b ∧ ρ k = some cap ∧ RowAt w b cur e ∧ (B ≤ b ∨ M b) ∧ cap ≤ maxLen ∧ cur.size = cap * sz ∧ r.list.length ≤ cap * sz ∧ cur.toList.take r.list.length = rvL ρ r.list := by
  rcases h with ⟨_, h⟩ | h
  · rw [h] at hne; exact absurd hne (by decide)
  · exact h

theorem row_cell {w : World} {ρ : Num} {b : Nat} {e : TypeId} {cur : Array Value} {xs : List Value} (h : RowAt w b cur e) (ht : cur.toList.take xs.length = rvL ρ xs) {i : Nat} {v : Value} (hi : xs[i]? = some v) : w.cell? ⟨b, i, none⟩ = some (rv ρ v) := by
  obtain ⟨fr, h, _⟩ := h
  rw [cell_of_row w b i _ _ _ h]
  have hlt : i < xs.length := (List.getElem?_eq_some_iff.1 hi).1
  have e1 : (cur.toList.take xs.length)[i]? = some (rv ρ v) := by rw [ht, rvL_eq, List.getElem?_map, hi]; rfl
  rw [List.getElem?_take, if_pos hlt] at e1
  simpa using e1

theorem run_load_cell {P : Program} {w : World} {b o : Nat} {v : Value} (h : w.cell? ⟨b, o, none⟩ = some v) : (load ⟨b, o, none⟩).run P w = .ok v w := by
  simp [h]

theorem evLoad_sound {P : Program} {auto : Bool} {B : Nat} {M : Nat → Prop} {ρ : Num} {H : Heap} {w : World} (hS : Sim P B M ρ H w) {t : TypeId} {x v : Value} {l : List Prop}
    (h : evLoad P auto H t x = some (v, l)) (hl : allP l) : (Instr.loadAt t (rv ρ x)).run P w = .ok (rv ρ v) w := by
  unfold evLoad at h
  simp only [undF_eq, infF_eq] at h
  split at h
  case h_2 => cases h
  rename_i id off
  split at h
  case h_1 => cases h
  rename_i d hd
  split at h
  · -- cells
    rename_i cs ty hget
    obtain ⟨b, hb, hcells, _⟩ := hS.obj id _ hget
    simp only [rv, rAddr, hb, Option.map_some, Instr.loadAt, Instr.sureAddr, pure_bind, loadVar, Sem.run_bind, run_isAgg' hd, Result.andThen_ok]
    split at h
    · rename_i hagg
      split at h
      case h_2 => cases h
      rename_i i hi
      split at h
      case h_2 => cases h
      rename_i hle
      have hle : off + i.size ≤ cs.length := Nat.le_of_ble_eq_true hle
      cases h
      rw [hagg]
      have hlen : ((rvL ρ cs).drop off |>.take i.size).length = i.size := by rw [rvL_eq]; simp; omega
      have hc := run_loadCells_list (P := P) w ⟨b, off, none⟩ (((rvL ρ cs).drop off).take i.size) (fun j v hj => by
        rw [addr_add]
        have hj' : j < i.size := by
          have := List.getElem?_eq_some_iff.1 hj
          obtain ⟨hlt, _⟩ := this
          omega
        rw [cell_of_row w b (off + j) _ _ _ hcells]
        rw [List.getElem?_take, if_pos hj', List.getElem?_drop] at hj
        simpa using hj)
      rw [hlen] at hc
      simp only [if_true, Sem.run_bind, run_sizeOf' hi, Result.andThen_ok, hc]
      simp only [rv, rvA, rvL_eq, List.map_take, List.map_drop]
      rfl
    · rename_i hagg
      split at h
      case h_2 => cases h
      rename_i u hu
      cases h
      rw [hagg]
      have : w.cell? ⟨b, off, none⟩ = some (rv ρ v) := by
        rw [cell_of_row w b off _ _ _ hcells]
        simp [rvL_eq, hu]
      simp [this]
  · -- ints
    rename_i k xs hget
    split at h
    · rename_i hagg
      split at h
      case h_1 => cases h
      rename_i i hi
      split at h
      case h_2 => cases h
      rename_i l' hpos hneed
      cases h
      have hle := need_sound hneed hl
      have hpos : 0 < i.size := by simpa [Nat.blt_eq] using hpos
      rcases hS.obj id _ hget with ⟨_, hnil⟩ | ⟨b, cs, ty, fr, hb, hcells, hall⟩
      · subst hnil; simp at hle; omega
      · simp only [rv, rAddr, hb, Option.map_some, Instr.loadAt, Instr.sureAddr, pure_bind, loadVar, Sem.run_bind, run_isAgg' hd, Result.andThen_ok]
        rw [hagg, intsAt_eq k xs _ _ hle]
        have hlen : (((xs.map (Value.int k)).drop off).take i.size).length = i.size := by simp; omega
        have hc := run_loadCells_list (P := P) w ⟨b, off, none⟩ (((xs.map (Value.int k)).drop off).take i.size) (fun j v hj => by
          rw [addr_add]
          have hj' : j < i.size := by
            obtain ⟨hlt, _⟩ := List.getElem?_eq_some_iff.1 hj
            omega
          rw [List.getElem?_take, if_pos hj', List.getElem?_drop, List.getElem?_map] at hj
          rw [cell_of_row w b (off + j) _ _ _ hcells, hall (off + j) (by omega)]
          have : xs[off + j]? = some (xs.getD (off + j) 0) := by simp [List.getD, show off + j < xs.length by omega]
          rw [this] at hj
          exact hj)
        rw [hlen] at hc
        simp only [if_true, Sem.run_bind, run_sizeOf' hi, Result.andThen_ok, hc]
        have e : rvL ρ (((xs.map (Value.int k)).drop off).take i.size) = ((xs.map (Value.int k)).drop off).take i.size := rvL_pure _ _ (by
          rw [pureL_eq, List.all_eq_true]
          intro y hy
          have hy := List.mem_of_mem_drop (List.mem_of_mem_take hy)
          obtain ⟨z, _, rfl⟩ := List.mem_map.1 hy
          rfl)
        rw [rvA, e]
        rfl
    rename_i hagg
    split at h
    case h_2 => cases h
    rename_i l' hneed
    cases h
    have hlt := need_sound hneed hl
    rcases hS.obj id _ hget with ⟨_, hnil⟩ | ⟨b, cs, ty, fr, hb, hcells, hall⟩
    · subst hnil; simp at hlt
    · simp only [rv, rAddr, hb, Option.map_some, Instr.loadAt, Instr.sureAddr, pure_bind, loadVar, Sem.run_bind, run_isAgg' hd, Result.andThen_ok, hagg]
      have : w.cell? ⟨b, off, none⟩ = some (.int k (xs.getD off 0)) := by
        rw [cell_of_row w b off _ _ _ hcells]
        exact hall off hlt
      simp only [Bool.false_eq_true, if_false]
      exact run_load_cell this
  · -- a row
    rename_i e sz r kk hget
    have hrow := hS.obj id _ hget
    split at h
    · rename_i hagg
      split at h
      case h_1 => cases h
      rename_i i hi
      have fin : ∀ (vs : List Value), vs = (r.list.drop off).take i.size → off + i.size ≤ r.list.length → 0 < i.size → (Instr.loadAt t (rv ρ (.pointer (some ⟨id, off, none⟩)))).run P w = .ok (rv ρ (.agg ⟨vs⟩)) w := by
        intro vs hvs hle hpos
        obtain ⟨b, cap, cur, hb, _, hcells, _, _, _, _, htake⟩ := hrow.row_some (by omega)
        simp only [rv, rAddr, hb, Option.map_some, Instr.loadAt, Instr.sureAddr, pure_bind, loadVar, Sem.run_bind, run_isAgg' hd, Result.andThen_ok]
        rw [hagg]
        have hlen : ((rvL ρ r.list).drop off |>.take i.size).length = i.size := by rw [rvL_eq]; simp; omega
        have hc := run_loadCells_list (P := P) w ⟨b, off, none⟩ (((rvL ρ r.list).drop off).take i.size) (fun j v hj => by
          rw [addr_add]
          have hj' : j < i.size := by
            obtain ⟨hlt, _⟩ := List.getElem?_eq_some_iff.1 hj
            omega
          rw [List.getElem?_take, if_pos hj', List.getElem?_drop, rvL_eq, List.getElem?_map] at hj
          cases hx : r.list[off + j]? with
          | none => rw [hx] at hj; cases hj
          | some u =>
            rw [hx] at hj
            cases hj
            exact row_cell hcells htake hx)
        rw [hlen] at hc
        simp only [if_true, Sem.run_bind, run_sizeOf' hi, Result.andThen_ok, hc]
        rw [hvs]
        simp only [rvA, rvL_eq, List.map_take, List.map_drop]
        rfl
      split at h
      · rename_i xs
        split at h
        case h_2 => cases h
        rename_i hle
        cases h
        simp only [Bool.and_eq_true, Nat.ble_eq, Nat.blt_eq] at hle
        exact fin _ rfl hle.1 hle.2
      · rename_i k ns
        split at h
        case h_2 => cases h
        rename_i l' hpos hneed
        cases h
        have hle := need_sound hneed hl
        exact fin _ (intsAt_eq k ns _ _ hle) (by simp [Row.list]; exact hle) (by simpa [Nat.blt_eq] using hpos)
    · rename_i hagg
      have fin : ∀ (v : Value), r.list[off]? = some v → (Instr.loadAt t (rv ρ (.pointer (some ⟨id, off, none⟩)))).run P w = .ok (rv ρ v) w := by
        intro v hv
        obtain ⟨b, cap, cur, hb, _, hcells, _, _, _, _, htake⟩ := hrow.row_some (by have := (List.getElem?_eq_some_iff.1 hv).1; omega)
        simp only [rv, rAddr, hb, Option.map_some, Instr.loadAt, Instr.sureAddr, pure_bind, loadVar, Sem.run_bind, run_isAgg' hd, Result.andThen_ok]
        rw [hagg]
        simp [row_cell hcells htake hv]
      split at h
      · rename_i xs
        split at h
        case h_2 => cases h
        rename_i u hu
        cases h
        exact fin _ hu
      · rename_i k ns
        split at h
        case h_2 => cases h
        rename_i l' hneed
        cases h
        have hlt := need_sound hneed hl
        exact fin _ (by simp [Row.list, List.getD, hlt])
  · -- cells that are read alone
    rename_i xs hget
    have hro := hS.obj id _ hget
    split at h
    · rename_i hagg
      split at h
      case h_1 => cases h
      rename_i i hi
      split at h
      case h_2 => cases h
      rename_i hle
      simp only [Bool.and_eq_true, Nat.ble_eq, Nat.blt_eq] at hle
      cases h
      rcases hro with ⟨_, hnil⟩ | ⟨b, cs, ty, fr, hb, hcells, hall⟩
      · subst hnil; simp at hle; omega
      · simp only [rv, rAddr, hb, Option.map_some, Instr.loadAt, Instr.sureAddr, pure_bind, loadVar, Sem.run_bind, run_isAgg' hd, Result.andThen_ok]
        rw [hagg]
        have hlen : ((rvL ρ xs).drop off |>.take i.size).length = i.size := by rw [rvL_eq]; simp; omega
        have hc := run_loadCells_list (P := P) w ⟨b, off, none⟩ (((rvL ρ xs).drop off).take i.size) (fun j v hj => by
          rw [addr_add]
          have hj' : j < i.size := by
            obtain ⟨hlt, _⟩ := List.getElem?_eq_some_iff.1 hj
            omega
          rw [List.getElem?_take, if_pos hj', List.getElem?_drop] at hj
          rw [cell_of_row w b (off + j) _ _ _ hcells]
          exact hall _ _ hj)
        rw [hlen] at hc
        simp only [if_true, Sem.run_bind, run_sizeOf' hi, Result.andThen_ok, hc]
        simp only [rvA, rvL_eq, List.map_take, List.map_drop]
        rfl
    · rename_i hagg
      split at h
      case h_2 => cases h
      rename_i u hu
      cases h
      rcases hro with ⟨_, hnil⟩ | ⟨b, cs, ty, fr, hb, hcells, hall⟩
      · subst hnil; simp at hu
      · simp only [rv, rAddr, hb, Option.map_some, Instr.loadAt, Instr.sureAddr, pure_bind, loadVar, Sem.run_bind, run_isAgg' hd, Result.andThen_ok, hagg]
        have : w.cell? ⟨b, off, none⟩ = some (rv ρ v) := by
          rw [cell_of_row w b off _ _ _ hcells]
          exact hall off _ (by rw [rvL_eq, List.getElem?_map, hu]; rfl)
        simp only [Bool.false_eq_true, if_false]
        exact run_load_cell this
  · -- a family
    rename_i f n sz o hget
    have hro := hS.obj id _ hget
    have key : FamIn off o sz n → ∃ b cs ty fr, ρ id = some b ∧ w.heap[b]? = some (.cells cs ty fr) ∧ (f (famAt off o sz)).cells.toList.length = sz ∧ pureV (f (famAt off o sz)) = true ∧ ∀ (j : Nat) (v : Value), (f (famAt off o sz)).cells.toList[j]? = some v → cs[off + j]? = some v := by
      intro hin
      have he := hin.eq
      obtain ⟨_, _, hlt⟩ := hin
      rcases hro with ⟨_, hnil⟩ | ⟨b, cs, ty, fr, hb, hcells, hall⟩
      · omega
      · obtain ⟨g1, g2, g3⟩ := hall _ hlt
        refine ⟨b, cs, ty, fr, hb, hcells, g1, g2, fun j v hj => ?_⟩
        rw [he]
        exact g3 j v hj
    unfold evFam at h
    simp only [infF_eq] at h
    split at h
    · rename_i hagg
      split at h
      case h_1 => cases h
      rename_i i hi
      split at h
      case h_2 => cases h
      rename_i xs hc hf
      split at h
      case h_2 => cases h
      rename_i l' hneed
      cases h
      simp only [Bool.and_eq_true, Nat.beq_eq] at hc
      obtain ⟨hc, _⟩ := hc
      obtain ⟨b, cs, ty, fr, hb, hcells, hlen, hpure, hall⟩ := key (need_sound hneed hl)
      rw [hf] at hlen hpure hall
      simp only [Value.cells] at hlen hall
      simp only [rv, rAddr, hb, Option.map_some, Instr.loadAt, Instr.sureAddr, pure_bind, loadVar, Sem.run_bind, run_isAgg' hd, Result.andThen_ok]
      rw [hagg]
      have hl2 := run_loadCells_list (P := P) w ⟨b, off, none⟩ xs.toList (fun j v hj => by
        rw [addr_add, cell_of_row w b (off + j) _ _ _ hcells]
        exact hall j v hj)
      rw [hlen, ← hc] at hl2
      simp only [if_true, Sem.run_bind, run_sizeOf' hi, Result.andThen_ok, hl2]
      have := rv_pure ρ _ hpure
      rw [rv] at this
      rw [this]
      rfl
    · rename_i hagg
      split at h
      case h_2 => cases h
      rename_i hs
      have hs := Nat.eq_of_beq_eq_true hs
      have fin : ∀ v l', (f (famAt off o sz)) = v → v.cells = #[v] → need auto (FamIn off o sz n) = some l' → allP l' → (Instr.loadAt t (rv ρ (.pointer (some ⟨id, off, none⟩)))).run P w = .ok (rv ρ v) w := by
        intro v l' hf hv hneed hl'
        obtain ⟨b, cs, ty, fr, hb, hcells, hlen, hpure, hall⟩ := key (need_sound hneed hl')
        rw [hf] at hlen hpure hall
        simp only [rv, rAddr, hb, Option.map_some, Instr.loadAt, Instr.sureAddr, pure_bind, loadVar, Sem.run_bind, run_isAgg' hd, Result.andThen_ok, hagg]
        have : w.cell? ⟨b, off, none⟩ = some (rv ρ v) := by
          rw [cell_of_row w b off _ _ _ hcells, rv_pure ρ v hpure]
          exact hall 0 v (by rw [hv]; rfl)
        simp only [Bool.false_eq_true, if_false]
        exact run_load_cell this
      split at h
      · cases h
      · cases h
      · rename_i v hna hnt
        split at h
        case h_2 => cases h
        rename_i l' hneed
        cases h
        refine fin _ _ rfl ?_ hneed hl
        cases hfv : f (famAt off o sz) <;> first | rfl | (exact absurd hfv (hna _)) | (exact absurd hfv (hnt _))
  · cases h

/-- A variable is written. -/
def one1 (v : Value) : Bool :=
  match v with
  | .agg _ => false
  | .tuple _ => false
  | _ => true

def evStore (P : Program) (H : Heap) (t : TypeId) (x v : Value) : Option Heap :=
  match x with
  | .pointer (some ⟨id, off, none⟩) =>
    match infF P t with
    | none => none
    | some i =>
      match H.get id with
      | some (.cells cs ty) =>
        match Nat.beq v.cells.toList.length i.size && Nat.ble (off + v.cells.toList.length) cs.length && v.cells.toList.all one1 with
        | true => some (H.set id (.cells (cs.take off ++ v.cells.toList ++ cs.drop (off + v.cells.toList.length)) ty))
        | false => none
      | some (.row e sz (.vals xs) k) =>
        match Nat.beq v.cells.toList.length i.size && Nat.ble (off + v.cells.toList.length) xs.length && v.cells.toList.all one1 && Nat.blt 0 xs.length with
        | true => some (H.set id (.row e sz (.vals (xs.take off ++ v.cells.toList ++ xs.drop (off + v.cells.toList.length))) k))
        | false => none
      | some (.row e sz (.ints kd ns) k) => match v with
        | .int kd' x => match decide (kd' = kd) && Nat.beq 1 i.size && Nat.blt off ns.length with
          | true => some (H.set id (.row e sz (.ints kd (setF ns off x)) k))
          | false => none
        | _ => none
      | _ => none
  | _ => none

theorem one1_rv (ρ : Num) (v : Value) (h : one1 v = true) : (rv ρ v).oneCell' = true := by
  cases v with
  | agg _ => simp [one1] at h
  | tuple _ => simp [one1] at h
  | pointer a => cases a <;> simp [rv, Value.oneCell']
  | slice a n c =>
    cases a with
    | none => simp [rv, Value.oneCell']
    | some a =>
      obtain ⟨x, m, e⟩ := rSl_slice ρ a n c
      simp [rv, e, Value.oneCell']
  | map a => cases a <;> simp [rv, Value.oneCell']
  | chan a =>
    cases a with
    | none => simp [rv, Value.oneCell']
    | some m =>
      obtain ⟨x, q, e⟩ := endE_slice ρ m
      simp [rv, e, Value.oneCell']
  | _ => simp [rv, Value.oneCell']

theorem rowStore_sound {P : Program} {B : Nat} {M : Nat → Prop} {ρ : Num} {H : Heap} {w : World} (hS : Sim P B M ρ H w) {t : TypeId} {v : Value} {i : TypeInfo} (hi : P.info? t = some i) {id off e sz k : Nat} {r r' : Row}
    (hget : H.get id = some (.row e sz r k)) (h1 : v.cells.toList.length = i.size) (h2 : off + v.cells.toList.length ≤ r.list.length) (h3 : ∀ x ∈ v.cells.toList, one1 x = true) (h4 : 0 < r.list.length)
    (hr : r'.list = r.list.take off ++ v.cells.toList ++ r.list.drop (off + v.cells.toList.length)) :
    ∃ w', (Instr.storeAt t (rv ρ (.pointer (some ⟨id, off, none⟩))) (rv ρ v)).run P w = .ok () w' ∧ Sim P B M ρ (H.set id (.row e sz r' k)) w' ∧ Keeps B M w w' ∧ w'.drawn = w.drawn ∧ w'.heap.size = w.heap.size := by
    obtain ⟨b, cap, cur, hb, hcap, hcells, hB, hcm, hcs, hln, htake⟩ := (hS.obj id _ hget).row_some h4
    generalize r.list = xs at *
    have hlen : ((rv ρ v).cells.toList).length = v.cells.toList.length := by rw [rv_cells]; simp
    have hcur : xs.length ≤ cur.size := by rw [hcs]; exact hln
    have hst := run_storeCells_free P b off e (rv ρ v).cells.toList 0 cur w hcells (by rw [hlen]; omega) (fun u hu => by
      rw [rv_cells] at hu
      simp only [Array.toList_map, List.mem_map] at hu
      obtain ⟨u0, hu0, rfl⟩ := hu
      exact one1_rv ρ u0 (h3 u0 hu0))
    have hsz : (rv ρ v).cells.size = i.size := by rw [← h1]; simpa using hlen
    have hsize : (cur.toList.take (off + 0) ++ (rv ρ v).cells.toList ++ cur.toList.drop (off + 0 + (rv ρ v).cells.toList.length)).toArray.size = cur.size := by
      have hm : (rv ρ v).cells.toList.length = v.cells.toList.length := hlen
      generalize (rv ρ v).cells.toList = us at *
      generalize v.cells.toList = vs at *
      simp only [List.size_toArray, List.length_append, List.length_take, List.length_drop, Array.length_toList]
      rw [Nat.min_eq_left (by omega)]
      omega
    refine ⟨w.setRow b (cur.toList.take (off + 0) ++ (rv ρ v).cells.toList ++ cur.toList.drop (off + 0 + (rv ρ v).cells.toList.length)).toArray, ?_, ?_, ?_, ?_, ?_⟩
    · simp only [rv, rAddr, hb, Option.map_some, Instr.storeAt, Instr.sureAddr, pure_bind, storeVar, Sem.run_bind, run_sizeOf' hi, Result.andThen_ok]
      rw [if_neg (by simp [hsz])]
      simpa using hst
    · have e0 : (xs.take off ++ v.cells.toList ++ xs.drop (off + v.cells.toList.length)).length = xs.length := by
        simp only [List.length_append, List.length_take, List.length_drop]
        omega
      refine hS.turn hget rfl hb (.inr ⟨b, cap, _, rfl, hcap, hcells.set _ hsize, hB, hcm, by rw [hsize]; exact hcs, by rw [hr, e0]; exact hln, ?_⟩) (fun k hk => setRow_other w b k _ hk)
      rw [hr, e0]
      simp only [Nat.add_zero, hlen]
      have e2 : rvL ρ (xs.take off ++ v.cells.toList ++ xs.drop (off + v.cells.toList.length)) = (rvL ρ xs).take off ++ (rv ρ v).cells.toList ++ (rvL ρ xs).drop (off + v.cells.toList.length) := by
        simp only [rvL_eq, List.map_append, List.map_take, List.map_drop, rv_cells, Array.toList_map]
      rw [e2, ← htake]
      apply List.ext_getElem?
      intro j
      simp only [List.getElem?_take, List.getElem?_append, List.length_append, List.length_take, hlen, List.getElem?_drop, Array.length_toList]
      grind
    · exact ⟨rfl, rfl, rfl, by simp, fun k hk hm => setRow_other w b k _ (fun e => by subst e; exact hB.elim (fun h => by omega) hm)⟩
    · rfl
    · simp

theorem evStore_sound {P : Program} {B : Nat} {M : Nat → Prop} {ρ : Num} {H H' : Heap} {w : World} (hS : Sim P B M ρ H w) {t : TypeId} {x v : Value}
    (h : evStore P H t x v = some H') : ∃ w', (Instr.storeAt t (rv ρ x) (rv ρ v)).run P w = .ok () w' ∧ Sim P B M ρ H' w' ∧ Keeps B M w w' ∧ w'.drawn = w.drawn ∧ w'.heap.size = w.heap.size := by
  unfold evStore at h
  simp only [infF_eq] at h
  split at h
  case h_2 => cases h
  rename_i id off
  split at h
  case h_1 => cases h
  rename_i i hi
  split at h
  case h_4 => cases h
  case h_2 =>
    rename_i e sz xs k hget
    split at h
    case h_2 => cases h
    rename_i hc
    simp only [Bool.and_eq_true, Nat.beq_eq, Nat.ble_eq, Nat.blt_eq, List.all_eq_true] at hc
    obtain ⟨⟨⟨h1, h2⟩, h3⟩, h4⟩ := hc
    cases h
    exact rowStore_sound hS hi (r := .vals xs) hget h1 h2 h3 h4 rfl
  case h_3 =>
    rename_i e sz kd ns k hget
    split at h
    case h_2 => cases h
    rename_i kd' x
    split at h
    case h_2 => cases h
    rename_i hc
    simp only [Bool.and_eq_true, Nat.beq_eq, Nat.blt_eq, decide_eq_true_eq] at hc
    obtain ⟨⟨hk, h1⟩, h2⟩ := hc
    subst hk
    cases h
    have hc1 : (Value.int kd' x).cells.toList = [.int kd' x] := rfl
    refine rowStore_sound hS hi (r := .ints kd' ns) hget (by rw [hc1]; exact h1) (by rw [hc1]; simp [Row.list]; omega) (by rw [hc1]; simp [one1]) (by simp [Row.list]; omega) ?_
    rw [hc1, setF_eq]
    simp only [Row.list, List.length_singleton, ← List.map_take, ← List.map_drop]
    rw [show [Value.int kd' x] = [x].map (Value.int kd') from rfl, ← List.map_append, ← List.map_append, List.set_eq_take_append_cons_drop, if_pos h2]
    simp
  rename_i cs ty hget
  split at h
  case h_2 => cases h
  rename_i hc
  simp only [Bool.and_eq_true, Nat.beq_eq, Nat.ble_eq, List.all_eq_true] at hc
  obtain ⟨⟨h1, h2⟩, h3⟩ := hc
  cases h
  obtain ⟨b, hb, hcells, hown⟩ := hS.obj id _ hget
  have hlen : ((rv ρ v).cells.toList).length = v.cells.toList.length := by rw [rv_cells]; simp
  have hst := run_storeCells_at P b off ty (rv ρ v).cells.toList 0 (rvL ρ cs).toArray w hcells (by simp [hlen, rvL_eq] at h2 ⊢; omega) (fun u hu => by
    rw [rv_cells] at hu
    simp only [Array.toList_map, List.mem_map] at hu
    obtain ⟨u0, hu0, rfl⟩ := hu
    exact one1_rv ρ u0 (h3 u0 hu0))
  have hsz : (rv ρ v).cells.size = i.size := by rw [← h1]; simpa using hlen
  refine ⟨w.setRow b ((rvL ρ cs).toArray.toList.take (off + 0) ++ (rv ρ v).cells.toList ++ (rvL ρ cs).toArray.toList.drop (off + 0 + (rv ρ v).cells.toList.length)).toArray, ?_, ?_, ?_, ?_, ?_⟩
  · simp only [rv, rAddr, hb, Option.map_some, Instr.storeAt, Instr.sureAddr, pure_bind, storeVar, Sem.run_bind, run_sizeOf' hi, Result.andThen_ok]
    rw [if_neg (by simp [hsz])]
    simpa using hst
  · refine hS.turn hget rfl hb ⟨b, rfl, ?_, hown⟩ (fun k hk => setRow_other w b k _ hk)
    rw [setRow_heap w b _ _ ty (0, 0) hcells]
    congr 2
    simp only [rvL_eq, List.map_append, List.map_take, List.map_drop, rv_cells, Nat.add_zero, Array.toList_map, List.length_map]
  · exact ⟨rfl, rfl, rfl, by simp, fun k hk hm => setRow_other w b k _ (fun e => by subst e; exact hown.elim (fun h => by omega) (fun h => hm h))⟩
  · rfl
  · simp

/-- How much lies in a row. -/
def Row.len : Row → Nat
  | .vals xs => xs.length
  | .ints _ ns => ns.length
theorem Row.len_eq (r : Row) : r.len = r.list.length := by cases r <;> simp [Row.len, Row.list]

/-- Cells of a row are written. -/
theorem rowPut {P : Program} {B : Nat} {M : Nat → Prop} {ρ : Num} {H : Heap} {w : World} (hS : Sim P B M ρ H w) {id off e sz k : Nat} {r r' : Row} {news : List Value} (hp : rvL ρ news = news)
    (hget : H.get id = some (.row e sz r k)) (h2 : off + news.length ≤ r.list.length) (h3 : ∀ x ∈ news, x.oneCell' = true) (h4 : 0 < r.list.length)
    (hr : r'.list = r.list.take off ++ news ++ r.list.drop (off + news.length)) {b : Nat} (hbb : ρ id = some b) {cur : Array Value} {e' : TypeId} {fr : Nat × Nat} (hcur : w.heap[b]? = some (.cells cur e' fr)) :
    (storeCells ⟨b, off, none⟩ news).run P w = .ok () (w.setRow b (cur.toList.take off ++ news ++ cur.toList.drop (off + news.length)).toArray) ∧
    Sim P B M ρ (H.set id (.row e sz r' k)) (w.setRow b (cur.toList.take off ++ news ++ cur.toList.drop (off + news.length)).toArray) ∧
    Keeps B M w (w.setRow b (cur.toList.take off ++ news ++ cur.toList.drop (off + news.length)).toArray) := by
  obtain ⟨b', cap, cur', hb, hcap, hcells, hB, hcm, hcs, hln, htake⟩ := (hS.obj id _ hget).row_some h4
  rw [hbb] at hb
  cases hb
  obtain rfl : cur' = cur := by
    obtain ⟨fr', q1, _⟩ := hcells
    rw [hcur] at q1
    injection q1 with q1
    injection q1 with q1
    exact q1.symm
  generalize r.list = xs at *
  have hcur : xs.length ≤ cur'.size := by rw [hcs]; exact hln
  have hst := run_storeCells_free P b off e news 0 cur' w hcells (by omega) h3
  have hsize : (cur'.toList.take off ++ news ++ cur'.toList.drop (off + news.length)).toArray.size = cur'.size := by
    simp only [List.size_toArray, List.length_append, List.length_take, List.length_drop, Array.length_toList]
    rw [Nat.min_eq_left (by omega)]
    omega
  refine ⟨by simpa using hst, ?_, ⟨rfl, rfl, rfl, by simp, fun k hk hm => setRow_other w b k _ (fun e => by subst e; exact hB.elim (fun h => by omega) hm)⟩⟩
  have e0 : (xs.take off ++ news ++ xs.drop (off + news.length)).length = xs.length := by
    simp only [List.length_append, List.length_take, List.length_drop]
    omega
  refine hS.turn hget rfl hbb (.inr ⟨b, cap, _, rfl, hcap, hcells.set _ hsize, hB, hcm, by rw [hsize]; exact hcs, by rw [hr, e0]; exact hln, ?_⟩) (fun k hk => setRow_other w b k _ hk)
  rw [hr, e0]
  have e2 : rvL ρ (xs.take off ++ news ++ xs.drop (off + news.length)) = (rvL ρ xs).take off ++ news ++ (rvL ρ xs).drop (off + news.length) := by
    have hp' := hp
    rw [rvL_eq] at hp'
    simp only [rvL_eq, List.map_append, List.map_take, List.map_drop, hp']
  rw [e2, ← htake]
  apply List.ext_getElem?
  intro j
  simp only [List.getElem?_take, List.getElem?_append, List.length_append, List.length_take, List.getElem?_drop, Array.length_toList]
  grind

/-- A number is written into a row of numbers, at a place that may be open. -/
def evStoreI (P : Program) (auto : Bool) (H : Heap) (t : TypeId) (x v : Value) : Option (Heap × List Prop) :=
  match auto with
  | true => none
  | false => match x with
    | .pointer (some ⟨id, off, none⟩) => match H.get id with
      | some (.row e sz (.ints kd ns) k) => match infF P t, v with
        | some i, .int kd' x => match decide (kd' = kd) && Nat.beq 1 i.size with
          | true => some (H.set id (.row e sz (.ints kd (setF ns off x)) k), [off < ns.length])
          | false => none
        | _, _ => none
      | _ => none
    | _ => none

theorem evStoreI_sound {P : Program} {auto : Bool} {B : Nat} {M : Nat → Prop} {ρ : Num} {H H' : Heap} {w : World} (hS : Sim P B M ρ H w) {t : TypeId} {x v : Value} {l : List Prop}
    (h : evStoreI P auto H t x v = some (H', l)) (hl : allP l) : ∃ w', (Instr.storeAt t (rv ρ x) (rv ρ v)).run P w = .ok () w' ∧ Sim P B M ρ H' w' ∧ Keeps B M w w' := by
  unfold evStoreI at h
  simp only [infF_eq] at h
  split at h
  · cases h
  split at h
  case h_2 => cases h
  rename_i id off
  split at h
  case h_2 => cases h
  rename_i e sz kd ns k hget
  split at h
  case h_2 => cases h
  rename_i i kd' x hi
  split at h
  case h_2 => cases h
  rename_i hc
  simp only [Bool.and_eq_true, decide_eq_true_eq, Nat.beq_eq] at hc
  obtain ⟨rfl, hs⟩ := hc
  cases h
  have hlt : off < ns.length := hl.1
  obtain ⟨w', h1, h2, h3, _⟩ := rowStore_sound (v := .int kd' x) (r' := .ints kd' (setF ns off x)) hS hi hget (by simpa [Value.cells] using hs) (by show off + 1 ≤ _; simp only [Row.list, List.length_map]; omega) (by simp [Value.cells, one1]) (by simp only [Row.list, List.length_map]; omega) (by
    simp only [Row.list, Value.cells, setF_eq]
    apply List.ext_getElem?
    intro j
    simp only [List.getElem?_map, List.getElem?_set, List.getElem?_append, List.getElem?_take, List.getElem?_drop, List.length_append, List.length_take, List.length_map]
    grind)
  exact ⟨w', h1, h2, h3⟩

/-- The cells behind an address. -/
def cellsAt (H : Heap) (p o k : Nat) : Option (List Value) :=
  match H.get p with
  | some (.cells cs _) => match Nat.ble (o + k) cs.length with
    | true => some ((cs.drop o).take k)
    | false => none
  | some (.row _ _ (.vals xs) _) => match Nat.ble (o + k) xs.length && Nat.blt 0 k with
    | true => some ((xs.drop o).take k)
    | false => none
  | some (.row _ _ (.ints kd ns) _) => match Nat.ble (o + k) ns.length && Nat.blt 0 k with
    | true => some (((ns.drop o).take k).map (.int kd))
    | false => none
  | some (.ro xs) => match Nat.ble (o + k) xs.length && Nat.blt 0 k with
    | true => some ((xs.drop o).take k)
    | false => none
  | _ => none

theorem cellsAt_sound {P : Program} {B : Nat} {M : Nat → Prop} {ρ : Num} {H : Heap} {w : World} (hS : Sim P B M ρ H w) {p o k : Nat} {cs : List Value} (h : cellsAt H p o k = some cs) :
    ∃ b, ρ p = some b ∧ cs.length = k ∧ ∀ j u, (rvL ρ cs)[j]? = some u → w.cell? ⟨b, o + j, none⟩ = some u := by
  unfold cellsAt at h
  split at h
  · rename_i cs0 t hget
    split at h
    case h_2 => cases h
    rename_i hle
    cases h
    have hle := Nat.le_of_ble_eq_true hle
    obtain ⟨b, hb, hcells, _⟩ := hS.obj p _ hget
    refine ⟨b, hb, by simp; omega, fun j u hj => ?_⟩
    rw [cell_of_row w b (o + j) _ _ _ hcells]
    rw [rvL_eq, List.getElem?_map, List.getElem?_take] at hj
    split at hj
    · rw [List.getElem?_drop] at hj
      simpa [rvL_eq] using hj
    · cases hj
  · rename_i e sz xs kk hget
    split at h
    case h_2 => cases h
    rename_i hle
    simp only [Bool.and_eq_true, Nat.ble_eq, Nat.blt_eq] at hle
    cases h
    obtain ⟨b, cap, cur, hb, _, hcells, _, _, _, _, htake⟩ := (hS.obj p _ hget).row_some (by simp only [Row.list]; omega)
    refine ⟨b, hb, by simp; omega, fun j u hj => ?_⟩
    rw [rvL_eq, List.getElem?_map, List.getElem?_take] at hj
    split at hj
    · rw [List.getElem?_drop] at hj
      cases hx : xs[o + j]? with
      | none => rw [hx] at hj; cases hj
      | some y =>
        rw [hx] at hj
        cases hj
        exact row_cell hcells htake hx
    · cases hj
  · rename_i e sz kd ns kk hget
    split at h
    case h_2 => cases h
    rename_i hle
    simp only [Bool.and_eq_true, Nat.ble_eq, Nat.blt_eq] at hle
    cases h
    obtain ⟨b, cap, cur, hb, _, hcells, _, _, _, _, htake⟩ := (hS.obj p _ hget).row_some (by simp only [Row.list, List.length_map]; omega)
    refine ⟨b, hb, by simp; omega, fun j u hj => ?_⟩
    rw [rvL_eq, List.getElem?_map, List.getElem?_map, List.getElem?_take] at hj
    split at hj
    · rw [List.getElem?_drop] at hj
      cases hx : ns[o + j]? with
      | none => rw [hx] at hj; cases hj
      | some y =>
        rw [hx] at hj
        cases hj
        have := row_cell (i := o + j) (v := .int kd y) hcells htake (by rw [Row.list, List.getElem?_map, hx]; rfl)
        exact this
    · cases hj
  · rename_i xs hget
    split at h
    case h_2 => cases h
    rename_i hle
    simp only [Bool.and_eq_true, Nat.ble_eq, Nat.blt_eq] at hle
    cases h
    rcases hS.obj p _ hget with ⟨_, hnil⟩ | ⟨b, cs0, ty, fr, hb, hcells, hall⟩
    · subst hnil; simp at hle; omega
    · refine ⟨b, hb, by simp; omega, fun j u hj => ?_⟩
      rw [cell_of_row w b (o + j) _ _ _ hcells]
      rw [rvL_eq, List.getElem?_map, List.getElem?_take] at hj
      split at hj
      · rw [List.getElem?_drop] at hj
        exact hall (o + j) u (by rw [rvL_eq, List.getElem?_map]; exact hj)
      · cases hj
  · cases h

/-! Memory that is read alone. -/

def roO : AObj → Option AObj
  | .cells cs _ => some (.ro cs)
  | .row _ _ (.vals xs) _ => some (.ro xs)
  | .row _ _ (.ints k ns) _ => some (.ints k ns)
  | .ints k ns => some (.ints k ns)
  | .ro xs => some (.ro xs)
  | .fam f n sz o => some (.fam f n sz o)
  | _ => none

def allO (p : Nat → Bool) : AObj → Bool
  | .cells cs _ => allL p cs
  | .row _ _ (.vals xs) k => allL p xs && p k
  | .row _ _ (.ints _ _) k => p k
  | .ints _ _ => true
  | .iter _ _ => true
  | .ro xs => allL p xs
  | .fam _ _ _ _ => true
  | _ => false

theorem ORep.ro {B : Nat} {M : Nat → Prop} {B' : Nat} {M' : Nat → Prop} {ρ : Num} {w : World} {ob : Option Nat} {o o' : AObj} (h : ORep B M ρ w ob o) (hr : roO o = some o') : ORep B' M' ρ w ob o' ∧ o'.rw = false := by
  unfold roO at hr
  split at hr
  · cases hr
    obtain ⟨b, h1, h2, _⟩ := h
    exact ⟨.inr ⟨b, _, _, _, h1, h2, fun i v hi => by simpa using hi⟩, rfl⟩
  · cases hr
    rcases h with ⟨h1, h2⟩ | ⟨b, cap, cur, h1, h2, h3, h4, h5, h6, h7, h8⟩
    · exact ⟨.inl ⟨h1, h2⟩, rfl⟩
    · rename_i xs _
      obtain ⟨fr, h3, _⟩ := h3
      refine ⟨.inr ⟨b, cur, _, _, h1, h3, fun i v hi => ?_⟩, rfl⟩
      have h8 : cur.toList.take xs.length = rvL ρ xs := h8
      rw [← h8, List.getElem?_take] at hi
      split at hi
      · simpa using hi
      · cases hi
  · cases hr
    rcases h with ⟨h1, h2⟩ | ⟨b, cap, cur, h1, h2, h3, h4, h5, h6, h7, h8⟩
    · exact ⟨.inl ⟨h1, by simpa [Row.list] using h2⟩, rfl⟩
    · rename_i k ns _
      have h3' := h3
      obtain ⟨fr, h3, _⟩ := h3
      refine ⟨.inr ⟨b, cur, _, _, h1, h3, fun i hi => ?_⟩, rfl⟩
      have := row_cell (i := i) (v := .int k (ns.getD i 0)) (xs := ns.map (.int k)) h3' h8 (by rw [List.getElem?_map]; simp [List.getD, hi])
      rw [cell_of_row w b i _ _ _ h3] at this
      simpa [rv] using this
  · cases hr; exact ⟨h, rfl⟩
  · cases hr; exact ⟨h, rfl⟩
  · cases hr; exact ⟨h, rfl⟩
  · cases hr

theorem ORep.all {B : Nat} {M : Nat → Prop} {ρ ρ' : Num} {p : Nat → Bool} (ha : ∀ j, p j = true → ρ' j = ρ j) {w : World} {ob : Option Nat} {o : AObj} (h : ORep B M ρ w ob o) (hp : allO p o = true) : ORep B M ρ' w ob o := by
  unfold allO at hp
  split at hp
  · obtain ⟨b, h1, h2, h3⟩ := h
    exact ⟨b, h1, by rw [rvL_all ha _ hp]; exact h2, h3⟩
  · simp only [Bool.and_eq_true] at hp
    rcases h with h | ⟨b, cap, cur, h1, h2, h3, h4, h5, h6, h7, h8⟩
    · exact .inl h
    · refine .inr ⟨b, cap, cur, h1, (ha _ hp.2).trans h2, h3, h4, h5, h6, h7, ?_⟩
      rw [Row.list, rvL_all ha _ hp.1]
      exact h8
  · rcases h with h | ⟨b, cap, cur, h1, h2, h3, h4, h5, h6, h7, h8⟩
    · exact .inl h
    · refine .inr ⟨b, cap, cur, h1, (ha _ hp).trans h2, h3, h4, h5, h6, h7, ?_⟩
      rename_i k ns _
      have e : ∀ (r : Num), rvL r (ns.map (Value.int k)) = ns.map (Value.int k) := fun r => rvL_pure r _ (by rw [pureL_eq]; simp [pureV])
      have h8 : cur.toList.take (ns.map (Value.int k)).length = rvL ρ (ns.map (Value.int k)) := h8
      show cur.toList.take (ns.map (Value.int k)).length = rvL ρ' (ns.map (Value.int k))
      rw [e] at h8 ⊢
      exact h8
  · exact h
  · exact h
  · rcases h with h | ⟨b, cs, t, fr, h1, h2, h3⟩
    · exact .inl h
    · exact .inr ⟨b, cs, t, fr, h1, h2, fun i v hi => h3 i v (by rw [← rvL_all ha _ hp]; exact hi)⟩
  · exact h
  · cases hp

end
end Go.Proofs.YtaopinmjgjpiiaaGreatDoor.Ev
