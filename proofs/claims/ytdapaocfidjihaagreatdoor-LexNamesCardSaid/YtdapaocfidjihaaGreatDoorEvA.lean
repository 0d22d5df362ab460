/-
  The evaluator, part A: values whose block numbers are abstract, what they stand for under a numbering, and abstract memory. Nothing of the program stands here.
-/
import Derived.WalkKit
import Derived.WalkSpells
import Derived.WalkLawsBesides
import Derived.Lib.Hide
namespace Go.Proofs.YtdapaocfidjihaaGreatDoor.Ev
open Go Go.RowKit
noncomputable section

/-! Lists by their recursor itself: it costs the kernel less. -/

def nthF {α : Type} (l : List α) : Nat → Option α :=
  List.rec (motive := fun _ => Nat → Option α) (fun _ => none) (fun x _ ih n => Nat.rec (motive := fun _ => Option α) (some x) (fun m _ => ih m) n) l

theorem nthF_eq {α : Type} (l : List α) : ∀ n, nthF l n = l[n]? := by
  induction l with
  | nil => intro n; rfl
  | cons x l ih =>
    intro n
    cases n with
    | zero => rfl
    | succ n => exact ih n

def setF {α : Type} (l : List α) : Nat → α → List α :=
  List.rec (motive := fun _ => Nat → α → List α) (fun _ _ => []) (fun x r ih n y => Nat.rec (motive := fun _ => List α) (y :: r) (fun m _ => x :: ih m y) n) l

theorem setF_eq {α : Type} (l : List α) : ∀ n x, setF l n x = l.set n x := by
  induction l with
  | nil => intro n x; rfl
  | cons y l ih =>
    intro n x
    cases n with
    | zero => rfl
    | succ n => exact congrArg (y :: ·) (ih n x)

/-- A type's entry. -/
def infF (P : Program) (t : TypeId) : Option TypeInfo := match nthF P.types.toList t with
  | some i => some i
  | none => P.info? t

theorem infF_eq (P : Program) (t : TypeId) : infF P t = P.info? t := by
  unfold infF
  rw [nthF_eq]
  split
  · rename_i i h
    have hlt : t < P.types.size := by
      have := (List.getElem?_eq_some_iff.1 h).1
      simpa using this
    have h2 : P.types[t]? = some i := by simpa using h
    show some i = Tables.info? _ t
    unfold Tables.info?
    rw [if_pos hlt]
    exact h2.symm
  · rfl

def undF (P : Program) (t : TypeId) : Option TypeDesc :=
  match infF P t with
  | some { desc := .named _ u, .. } => match infF P u with
    | some i => some i.desc
    | none => none
  | some i => some i.desc
  | none => none

theorem undF_eq (P : Program) (t : TypeId) : undF P t = P.underlying t := by
  unfold undF Program.underlying
  simp only [infF_eq]
  cases P.info? t with
  | none => rfl
  | some i =>
    obtain ⟨d, _⟩ := i
    cases d <;> first | rfl | (rename_i a u; dsimp only; cases P.info? u <;> rfl)

abbrev Num := Nat → Option Nat

def rAddr (ρ : Num) (a : Addr) : Option Addr := (ρ a.block).map fun b => { a with block := b }

def rFn (ρ : Num) : Fn → Fn
  | .yield l => .yield ((ρ l).getD 0)
  | f => f

def isYield : Fn → Bool
  | .yield _ => true
  | _ => false

theorem rFn_plain (ρ : Num) (f : Fn) (h : isYield f = false) : rFn ρ f = f := by
  cases f <;> first | rfl | (simp [isYield] at h)

/-- What a slice stands for. With a number k in the address: a row that has grown; its capacity is what k stands for, less c; if its block stands for nothing, it is nil. -/
def rSl (ρ : Num) (a : Addr) (n c : Nat) : Value :=
  match a with
  | ⟨j, off, none⟩ => .slice (rAddr ρ ⟨j, off, none⟩) n c
  | ⟨j, off, some k⟩ => match ρ j with
    | none => .slice none n 0
    | some b => .slice (some ⟨b, off, none⟩) n ((ρ k).getD 0 - c)

mutual
/-- What an abstract value stands for. -/
def rv (ρ : Num) : Value → Value
  | .pointer (some a) => .pointer (rAddr ρ a)
  | .slice (some a) n c => rSl ρ a n c
  | .map (some r) => .map (ρ r)
  | .func fn f c => .func (rFn ρ fn) (rvA ρ f) (rvA ρ c)
  | .iface t v => .iface t (rv ρ v)
  | .agg cs => .agg (rvA ρ cs)
  | .tuple vs => .tuple (rvA ρ vs)
  | .bool b => .bool b
  | .int k n => .int k n
  | .float k n => .float k n
  | .complex k a b => .complex k a b
  | .string s => .string s
  | .pointer none => .pointer none
  | .slice none n c => .slice none n c
  | .map none => .map none
  | .chan r => .chan r
  | .nilFunc => .nilFunc
  | .nilIface => .nilIface
def rvA (ρ : Num) : Array Value → Array Value
  | ⟨l⟩ => ⟨rvL ρ l⟩
def rvL (ρ : Num) : List Value → List Value
  | [] => []
  | v :: l => rv ρ v :: rvL ρ l
end

mutual
/-- No block is named in it. -/
def pureV : Value → Bool
  | .pointer (some _) => false
  | .slice (some _) _ _ => false
  | .map (some _) => false
  | .func fn f c => !(isYield fn) && pureA f && pureA c
  | .iface _ v => pureV v
  | .agg cs => pureA cs
  | .tuple vs => pureA vs
  | .bool _ => true
  | .int _ _ => true
  | .float _ _ => true
  | .complex _ _ _ => true
  | .string _ => true
  | .pointer none => true
  | .slice none _ _ => true
  | .map none => true
  | .chan _ => false
  | .nilFunc => true
  | .nilIface => true
def pureA : Array Value → Bool
  | ⟨l⟩ => pureL l
def pureL : List Value → Bool
  | [] => true
  | v :: l => pureV v && pureL l
end

theorem rvL_eq (ρ : Num) (l : List Value) : rvL ρ l = l.map (rv ρ) := by
  induction l with
  | nil => simp [rvL]
  | cons v l ih => simp [rvL, ih]
theorem rvA_eq (ρ : Num) (a : Array Value) : rvA ρ a = a.map (rv ρ) := by
  cases a; simp [rvA, rvL_eq]
theorem pureL_eq (l : List Value) : pureL l = l.all pureV := by
  induction l with
  | nil => simp [pureL]
  | cons v l ih => simp [pureL, ih]

mutual
theorem rv_pure (ρ : Num) : ∀ v : Value, pureV v = true → rv ρ v = v
  | .pointer (some _), h => by simp [pureV] at h
  | .slice (some _) _ _, h => by simp [pureV] at h
  | .map (some _), h => by simp [pureV] at h
  | .func fn f c, h => by
      simp only [pureV, Bool.and_eq_true, Bool.not_eq_true'] at h
      simp only [rv, rvA_pure ρ f h.1.2, rvA_pure ρ c h.2, rFn_plain ρ fn h.1.1]
  | .iface t v, h => by simp only [pureV] at h; simp only [rv, rv_pure ρ v h]
  | .agg cs, h => by simp only [pureV] at h; simp only [rv, rvA_pure ρ cs h]
  | .tuple vs, h => by simp only [pureV] at h; simp only [rv, rvA_pure ρ vs h]
  | .bool b, _ => by simp only [rv]
  | .int k n, _ => by simp only [rv]
  | .float k n, _ => by simp only [rv]
  | .complex k a b, _ => by simp only [rv]
  | .string s, _ => by simp only [rv]
  | .pointer none, _ => by simp only [rv]
  | .slice none n c, _ => by simp only [rv]
  | .map none, _ => by simp only [rv]
  | .chan r, _ => by simp only [rv]
  | .nilFunc, _ => by simp only [rv]
  | .nilIface, _ => by simp only [rv]
theorem rvA_pure (ρ : Num) : ∀ v : Array Value, pureA v = true → rvA ρ v = v
  | ⟨l⟩, h => by simp only [pureA] at h; simp only [rvA, rvL_pure ρ l h]
theorem rvL_pure (ρ : Num) : ∀ v : List Value, pureL v = true → rvL ρ v = v
  | [], _ => by simp only [rvL]
  | v :: l, h => by
      simp only [pureL, Bool.and_eq_true] at h
      simp only [rvL, rv_pure ρ v h.1, rvL_pure ρ l h.2]
end

theorem rSl_slice (ρ : Num) (a : Addr) (n c : Nat) : ∃ x m, rSl ρ a n c = .slice x n m := by
  unfold rSl
  split
  · exact ⟨_, _, rfl⟩
  · split
    · exact ⟨_, _, rfl⟩
    · exact ⟨_, _, rfl⟩

theorem rSl_plain (ρ : Num) (j off n c : Nat) : rSl ρ ⟨j, off, none⟩ n c = .slice (rAddr ρ ⟨j, off, none⟩) n c := rfl

theorem rv_cells (ρ : Num) (v : Value) : (rv ρ v).cells = v.cells.map (rv ρ) := by
  unfold Value.cells
  cases v with
  | agg cs => simp [rv, rvA_eq]
  | pointer a => cases a <;> simp [rv]
  | slice a n c =>
    cases a with
    | none => simp [rv]
    | some a =>
      obtain ⟨x, m, e⟩ := rSl_slice ρ a n c
      simp [rv, e]
  | map a => cases a <;> simp [rv]
  | _ => simp [rv]

/-! Which numbers occur. -/

def allFn (p : Nat → Bool) : Fn → Bool
  | .yield l => p l
  | _ => true

mutual
/-- All numbers in it are such. -/
def allV (p : Nat → Bool) : Value → Bool
  | .pointer (some a) => p a.block
  | .slice (some ⟨j, _, none⟩) _ _ => p j
  | .slice (some ⟨j, _, some k⟩) _ _ => p j && p k
  | .map (some r) => p r
  | .func fn f c => allFn p fn && allA p f && allA p c
  | .iface _ v => allV p v
  | .agg cs => allA p cs
  | .tuple vs => allA p vs
  | _ => true
def allA (p : Nat → Bool) : Array Value → Bool
  | ⟨l⟩ => allL p l
def allL (p : Nat → Bool) : List Value → Bool
  | [] => true
  | v :: l => allV p v && allL p l
end

theorem rFn_all {ρ ρ' : Num} {p : Nat → Bool} (h : ∀ j, p j = true → ρ' j = ρ j) (f : Fn) (hf : allFn p f = true) : rFn ρ' f = rFn ρ f := by
  cases f <;> first | rfl | skip
  rename_i l
  simp only [allFn] at hf
  simp only [rFn, h l hf]

mutual
theorem rv_all {ρ ρ' : Num} {p : Nat → Bool} (h : ∀ j, p j = true → ρ' j = ρ j) : ∀ v : Value, allV p v = true → rv ρ' v = rv ρ v
  | .pointer (some a), hv => by simp only [allV] at hv; simp only [rv, rAddr, h _ hv]
  | .slice (some ⟨j, off, none⟩) _ _, hv => by simp only [allV] at hv; simp only [rv, rSl, rAddr, h _ hv]
  | .slice (some ⟨j, off, some k⟩) _ _, hv => by simp only [allV, Bool.and_eq_true] at hv; simp only [rv, rSl, h _ hv.1, h _ hv.2]
  | .map (some r), hv => by simp only [allV] at hv; simp only [rv, h _ hv]
  | .func fn f c, hv => by
      simp only [allV, Bool.and_eq_true] at hv
      simp only [rv, rFn_all h fn hv.1.1, rvA_all h f hv.1.2, rvA_all h c hv.2]
  | .iface t v, hv => by simp only [allV] at hv; simp only [rv, rv_all h v hv]
  | .agg cs, hv => by simp only [allV] at hv; simp only [rv, rvA_all h cs hv]
  | .tuple vs, hv => by simp only [allV] at hv; simp only [rv, rvA_all h vs hv]
  | .bool _, _ => by simp only [rv]
  | .int _ _, _ => by simp only [rv]
  | .float _ _, _ => by simp only [rv]
  | .complex _ _ _, _ => by simp only [rv]
  | .string _, _ => by simp only [rv]
  | .pointer none, _ => by simp only [rv]
  | .slice none _ _, _ => by simp only [rv]
  | .map none, _ => by simp only [rv]
  | .chan _, _ => by simp only [rv]
  | .nilFunc, _ => by simp only [rv]
  | .nilIface, _ => by simp only [rv]
theorem rvA_all {ρ ρ' : Num} {p : Nat → Bool} (h : ∀ j, p j = true → ρ' j = ρ j) : ∀ v : Array Value, allA p v = true → rvA ρ' v = rvA ρ v
  | ⟨l⟩, hv => by simp only [allA] at hv; simp only [rvA, rvL_all h l hv]
theorem rvL_all {ρ ρ' : Num} {p : Nat → Bool} (h : ∀ j, p j = true → ρ' j = ρ j) : ∀ v : List Value, allL p v = true → rvL ρ' v = rvL ρ v
  | [], _ => by simp only [rvL]
  | v :: l, hv => by
      simp only [allL, Bool.and_eq_true] at hv
      simp only [rvL, rv_all h v hv.1, rvL_all h l hv.2]
end

end
end Go.Proofs.YtdapaocfidjihaaGreatDoor.Ev
