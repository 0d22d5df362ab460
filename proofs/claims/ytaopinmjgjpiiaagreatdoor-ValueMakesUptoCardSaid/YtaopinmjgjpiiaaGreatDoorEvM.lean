/-
  The evaluator, part M: contracts of functions whose arguments and results hold slices of numbers: what a call does is told by what the slices hold.
-/
import Derived.Test.YtaopinmjgjpiiaaGreatDoorEvJK
namespace Go.Proofs.YtaopinmjgjpiiaaGreatDoor.Ev
open Go Go.RowKit
noncomputable section

/-- A cell of an argument or a result: a value without memory; a slice's contents. -/
inductive Cel where
  | v (x : Value)
  | s (e : TypeId) (k : IntKind) (xs : List Int)
  | o (k : IntKind) (ys : List Int) (off n : Nat)
  | f (g : Nat → Value) (m sz off : Nat)

/-- An argument, a result: one cell; a struct of such. -/
inductive Arg where
  | c (x : Cel)
  | a (l : List Cel)

def Arg.cells : Arg → List Cel
  | .c x => [x]
  | .a l => l
def cellsA : List Arg → List Cel
  | [] => []
  | a :: r => a.cells ++ cellsA r

def Arg.pack : Arg → List Value → Value
  | .c _, us => match us with
    | u :: _ => u
    | [] => undef
  | .a _, us => .agg ⟨us⟩
def packL : List Arg → List Value → List Value
  | [], _ => []
  | a :: r, us => a.pack (us.take a.cells.length) :: packL r (us.drop a.cells.length)

inductive All2 {α β : Type} (R : α → β → Prop) : List α → List β → Prop
  | nil : All2 R [] []
  | cons {x y xs ys} : R x y → All2 R xs ys → All2 R (x :: xs) (y :: ys)

theorem All2.length {α β : Type} {R : α → β → Prop} {l : List α} {m : List β} (h : All2 R l m) : l.length = m.length := by
  induction h with
  | nil => rfl
  | cons _ _ ih => simp [ih]
theorem All2.append {α β : Type} {R : α → β → Prop} {l l' : List α} {m m' : List β} (h : All2 R l m) (k : All2 R l' m') : All2 R (l ++ l') (m ++ m') := by
  induction h with
  | nil => exact k
  | cons a _ ih => exact .cons a ih
theorem All2.nil_inv {α β : Type} {R : α → β → Prop} {m : List β} (h : All2 R ([] : List α) m) : m = [] := by cases h; rfl
theorem All2.cons_inv {α β : Type} {R : α → β → Prop} {x : α} {xs : List α} {m : List β} (h : All2 R (x :: xs) m) : ∃ y ys, m = y :: ys ∧ R x y ∧ All2 R xs ys := by
  cases h with
  | cons a b => exact ⟨_, _, rfl, a, b⟩

/-- What an argument's cell is in the world. -/
def CelIs (w : World) : Cel → Value → Prop
  | .v x, u => u = x ∧ pureV x = true
  | .s _ k xs, u => (u = .slice none 0 0 ∧ xs = []) ∨ ∃ g cap cs t fr, u = .slice (some ⟨g, 0, none⟩) xs.length cap ∧ w.heap[g]? = some (.cells cs t fr) ∧ ∀ i, i < xs.length → cs[i]? = some (.int k (xs.getD i 0))
  | .o k ys off n, u => (u = .slice none 0 0 ∧ ys = [] ∧ off = 0 ∧ n = 0) ∨ ∃ g cap cs t fr, u = .slice (some ⟨g, off, none⟩) n cap ∧ w.heap[g]? = some (.cells cs t fr) ∧ ∀ i, i < ys.length → cs[i]? = some (.int k (ys.getD i 0))
  | .f g m sz off, u => (u = .slice none 0 0 ∧ m = 0) ∨ ∃ b cap cs t fr, u = .slice (some ⟨b, off, none⟩) m cap ∧ w.heap[b]? = some (.cells cs t fr) ∧ ∀ i, i < m → (g i).cells.toList.length = sz ∧ pureV (g i) = true ∧ ∀ (j : Nat) (v : Value), (g i).cells.toList[j]? = some v → cs[off + i * sz + j]? = some v

/-- What a result's cell is: a slice lies in a block that is new. -/
def CelNew (w w' : World) : Cel → Value → Prop
  | .v x, u => u = x ∧ pureV x = true
  | .s e k xs, u => (u = .slice none 0 0 ∧ xs = []) ∨ ∃ g cap cur, u = .slice (some ⟨g, 0, none⟩) xs.length cap ∧ w.heap.size ≤ g ∧ RowAt w' g cur e ∧ cap ≤ maxLen ∧ cur.size = cap ∧ xs.length ≤ cap ∧ cur.toList.take xs.length = xs.map (Value.int k)
  | .o _ _ _ _, _ => False
  | .f _ _ _ _, _ => False

def blk : Value → Option Nat
  | .slice (some a) _ _ => some a.block
  | _ => none

/-- THE CONTRACT: called with such arguments the function returns such results; nothing of old turns. -/
def Sem (P : Program) (J : Inv P) (f : FuncId) (az rs : List Arg) : Prop :=
  Enters P f ∧ ∀ (w : World) (us : List Value), J.I w → All2 (CelIs w) (cellsA az) us →
    Calls P f ⟨packL az us⟩ w fun e w' => ∃ us', e = .returned (oneOf (packL rs us')) ∧ Below w.heap.size w w' ∧ All2 (CelNew w w') (cellsA rs) us' ∧ (us'.filterMap blk).Nodup

/-! Out of the evaluator. -/

/-- Cells az abstract values, their rows under numbers from n on: to be read alone. -/
def encA (n : Nat) : List Cel → List Value × Heap × Nat
  | [] => ([], [], n)
  | .v x :: r => match encA n r with
    | (vs, h, m) => (x :: vs, h, m)
  | .s _ k xs :: r => match encA (n + 2) r with
    | (vs, h, m) => (.slice (some ⟨n, 0, some (n + 1)⟩) xs.length 0 :: vs, (n, .ints k xs) :: h, m)
  | .o k ys off l :: r => match encA (n + 2) r with
    | (vs, h, m) => (.slice (some ⟨n, off, some (n + 1)⟩) l 0 :: vs, (n, .ints k ys) :: h, m)
  | .f g m sz off :: r => match encA (n + 2) r with
    | (vs, h, k) => (.slice (some ⟨n, off, some (n + 1)⟩) m 0 :: vs, (n, .fam g m sz off) :: h, k)

theorem encA_le : ∀ (cs : List Cel) (n : Nat), n ≤ (encA n cs).2.2
  | [], n => Nat.le_refl _
  | .v x :: r, n => encA_le r n
  | .s _ k xs :: r, n => by
    have := encA_le r (n + 2)
    show n ≤ (encA (n + 2) r).2.2
    omega
  | .o k ys off l :: r, n => by
    have := encA_le r (n + 2)
    show n ≤ (encA (n + 2) r).2.2
    omega
  | .f g m sz off :: r, n => by
    have := encA_le r (n + 2)
    show n ≤ (encA (n + 2) r).2.2
    omega

theorem encA_low : ∀ (cs : List Cel) (n : Nat) (i : Nat) (o : AObj), (encA n cs).2.1.get i = some o → n ≤ i ∧ i < (encA n cs).2.2 ∧ o.rw = false
  | [], n, i, o, h => by cases h
  | .v x :: r, n, i, o, h => encA_low r n i o h
  | .s _ k xs :: r, n, i, o, h => by
    change Heap.get ((n, .ints k xs) :: (encA (n + 2) r).2.1) i = some o at h
    rw [Heap.get_cons] at h
    have hle := encA_le r (n + 2)
    show n ≤ i ∧ i < (encA (n + 2) r).2.2 ∧ o.rw = false
    split at h
    · rename_i e
      cases h
      exact ⟨by omega, by omega, rfl⟩
    · have := encA_low r (n + 2) i o h
      exact ⟨by omega, by omega, this.2.2⟩
  | .o k xs off l :: r, n, i, o, h => by
    change Heap.get ((n, .ints k xs) :: (encA (n + 2) r).2.1) i = some o at h
    rw [Heap.get_cons] at h
    have hle := encA_le r (n + 2)
    show n ≤ i ∧ i < (encA (n + 2) r).2.2 ∧ o.rw = false
    split at h
    · rename_i e
      cases h
      exact ⟨by omega, by omega, rfl⟩
    · have := encA_low r (n + 2) i o h
      exact ⟨by omega, by omega, this.2.2⟩
  | .f g m sz off :: r, n, i, o, h => by
    change Heap.get ((n, .fam g m sz off) :: (encA (n + 2) r).2.1) i = some o at h
    rw [Heap.get_cons] at h
    have hle := encA_le r (n + 2)
    show n ≤ i ∧ i < (encA (n + 2) r).2.2 ∧ o.rw = false
    split at h
    · rename_i e
      cases h
      exact ⟨by omega, by omega, rfl⟩
    · have := encA_low r (n + 2) i o h
      exact ⟨by omega, by omega, this.2.2⟩

theorem encA_ok (B : Nat) (M : Nat → Prop) (w : World) : ∀ (cs : List Cel) (us : List Value), All2 (CelIs w) cs us → ∀ (n : Nat) (ρ0 : Num), ∃ ρ, Agree n ρ0 ρ ∧ ∀ ρ', Agree (encA n cs).2.2 ρ ρ' →
    us = rvL ρ' (encA n cs).1 ∧ ∀ i o, (encA n cs).2.1.get i = some o → ORep B M ρ' w (ρ' i) o := by
  intro cs us h
  induction h with
  | nil => exact fun n ρ0 => ⟨ρ0, Agree.refl _ _, fun ρ' _ => ⟨rfl, fun i o h => by cases h⟩⟩
  | @cons c u cs us hc _ ih =>
    intro n ρ0
    cases c with
    | v x =>
      obtain ⟨rfl, hp⟩ := hc
      obtain ⟨ρ, ha, hρ⟩ := ih n ρ0
      refine ⟨ρ, ha, fun ρ' ha' => ?_⟩
      obtain ⟨h1, h2⟩ := hρ ρ' ha'
      refine ⟨?_, h2⟩
      show u :: us = rvL ρ' (u :: (encA n cs).1)
      simp only [rvL, rv_pure ρ' u hp, ← h1]
    | s e k xs =>
      have key : ∀ (ob : Option Nat) (cap : Nat), (u = match ob with | none => .slice none xs.length 0 | some g => .slice (some ⟨g, 0, none⟩) xs.length cap) → (∀ ρ', ORep B M ρ' w ob (.ints k xs)) → ∃ ρ, Agree n ρ0 ρ ∧ ∀ ρ', Agree (encA n (.s e k xs :: cs)).2.2 ρ ρ' →
          u :: us = rvL ρ' (encA n (.s e k xs :: cs)).1 ∧ ∀ i o, (encA n (.s e k xs :: cs)).2.1.get i = some o → ORep B M ρ' w (ρ' i) o := by
        intro ob cap hu ho
        obtain ⟨ρ, ha, hρ⟩ := ih (n + 2) (fun i => if i = n then ob else if i = n + 1 then some cap else ρ0 i)
        refine ⟨ρ, fun i hi => ?_, fun ρ' ha' => ?_⟩
        · rw [ha i (by omega)]
          show (if i = n then ob else if i = n + 1 then some cap else ρ0 i) = ρ0 i
          rw [if_neg (by omega), if_neg (by omega)]
        · obtain ⟨h1, h2⟩ := hρ ρ' ha'
          have hle := encA_le cs (n + 2)
          have hn : ρ' n = ob := by
            rw [ha' n (by show n < (encA (n + 2) cs).2.2; omega), ha n (by omega)]
            simp
          have hk : ρ' (n + 1) = some cap := by
            rw [ha' (n + 1) (by show n + 1 < (encA (n + 2) cs).2.2; omega), ha (n + 1) (by omega)]
            simp
          refine ⟨?_, fun i o hi => ?_⟩
          · show u :: us = rvL ρ' (.slice (some ⟨n, 0, some (n + 1)⟩) xs.length 0 :: (encA (n + 2) cs).1)
            rw [rvL, ← h1, hu]
            cases ob with
            | none => simp [rv, rSl, hn]
            | some g => simp [rv, rSl, hn, hk]
          · change Heap.get ((n, .ints k xs) :: (encA (n + 2) cs).2.1) i = some o at hi
            rw [Heap.get_cons] at hi
            split at hi
            · rename_i e'
              subst e'
              cases hi
              rw [hn]
              exact ho ρ'
            · exact h2 i o hi
      rcases hc with ⟨rfl, rfl⟩ | ⟨g, cap, cs', t, fr, rfl, h2, h3⟩
      · exact key none 0 rfl (fun ρ' => .inl ⟨rfl, rfl⟩)
      · exact key (some g) cap rfl (fun ρ' => .inr ⟨g, cs', t, fr, rfl, h2, h3⟩)
    | o k xs off l =>
      have key : ∀ (ob : Option Nat) (cap : Nat), (u = match ob with | none => .slice none l 0 | some g => .slice (some ⟨g, off, none⟩) l cap) → (∀ ρ', ORep B M ρ' w ob (.ints k xs)) → ∃ ρ, Agree n ρ0 ρ ∧ ∀ ρ', Agree (encA n (.o k xs off l :: cs)).2.2 ρ ρ' →
          u :: us = rvL ρ' (encA n (.o k xs off l :: cs)).1 ∧ ∀ i o, (encA n (.o k xs off l :: cs)).2.1.get i = some o → ORep B M ρ' w (ρ' i) o := by
        intro ob cap hu ho
        obtain ⟨ρ, ha, hρ⟩ := ih (n + 2) (fun i => if i = n then ob else if i = n + 1 then some cap else ρ0 i)
        refine ⟨ρ, fun i hi => ?_, fun ρ' ha' => ?_⟩
        · rw [ha i (by omega)]
          show (if i = n then ob else if i = n + 1 then some cap else ρ0 i) = ρ0 i
          rw [if_neg (by omega), if_neg (by omega)]
        · obtain ⟨h1, h2⟩ := hρ ρ' ha'
          have hle := encA_le cs (n + 2)
          have hn : ρ' n = ob := by
            rw [ha' n (by show n < (encA (n + 2) cs).2.2; omega), ha n (by omega)]
            simp
          have hk : ρ' (n + 1) = some cap := by
            rw [ha' (n + 1) (by show n + 1 < (encA (n + 2) cs).2.2; omega), ha (n + 1) (by omega)]
            simp
          refine ⟨?_, fun i o hi => ?_⟩
          · show u :: us = rvL ρ' (.slice (some ⟨n, off, some (n + 1)⟩) l 0 :: (encA (n + 2) cs).1)
            rw [rvL, ← h1, hu]
            cases ob with
            | none => simp [rv, rSl, hn]
            | some g => simp [rv, rSl, hn, hk]
          · change Heap.get ((n, .ints k xs) :: (encA (n + 2) cs).2.1) i = some o at hi
            rw [Heap.get_cons] at hi
            split at hi
            · rename_i e'
              subst e'
              cases hi
              rw [hn]
              exact ho ρ'
            · exact h2 i o hi
      rcases hc with ⟨rfl, rfl, rfl, rfl⟩ | ⟨g, cap, cs', t, fr, rfl, h2, h3⟩
      · exact key none 0 rfl (fun ρ' => .inl ⟨rfl, rfl⟩)
      · exact key (some g) cap rfl (fun ρ' => .inr ⟨g, cs', t, fr, rfl, h2, h3⟩)
    | f g m sz off =>
      have key : ∀ (ob : Option Nat) (cap : Nat), (u = match ob with | none => .slice none m 0 | some b => .slice (some ⟨b, off, none⟩) m cap) → (∀ ρ', ORep B M ρ' w ob (.fam g m sz off)) → ∃ ρ, Agree n ρ0 ρ ∧ ∀ ρ', Agree (encA n (.f g m sz off :: cs)).2.2 ρ ρ' →
          u :: us = rvL ρ' (encA n (.f g m sz off :: cs)).1 ∧ ∀ i o, (encA n (.f g m sz off :: cs)).2.1.get i = some o → ORep B M ρ' w (ρ' i) o := by
        intro ob cap hu ho
        obtain ⟨ρ, ha, hρ⟩ := ih (n + 2) (fun i => if i = n then ob else if i = n + 1 then some cap else ρ0 i)
        refine ⟨ρ, fun i hi => ?_, fun ρ' ha' => ?_⟩
        · rw [ha i (by omega)]
          show (if i = n then ob else if i = n + 1 then some cap else ρ0 i) = ρ0 i
          rw [if_neg (by omega), if_neg (by omega)]
        · obtain ⟨h1, h2⟩ := hρ ρ' ha'
          have hle := encA_le cs (n + 2)
          have hn : ρ' n = ob := by
            rw [ha' n (by show n < (encA (n + 2) cs).2.2; omega), ha n (by omega)]
            simp
          have hk : ρ' (n + 1) = some cap := by
            rw [ha' (n + 1) (by show n + 1 < (encA (n + 2) cs).2.2; omega), ha (n + 1) (by omega)]
            simp
          refine ⟨?_, fun i o hi => ?_⟩
          · show u :: us = rvL ρ' (.slice (some ⟨n, off, some (n + 1)⟩) m 0 :: (encA (n + 2) cs).1)
            rw [rvL, ← h1, hu]
            cases ob with
            | none => simp [rv, rSl, hn]
            | some b => simp [rv, rSl, hn, hk]
          · change Heap.get ((n, .fam g m sz off) :: (encA (n + 2) cs).2.1) i = some o at hi
            rw [Heap.get_cons] at hi
            split at hi
            · rename_i e'
              subst e'
              cases hi
              rw [hn]
              exact ho ρ'
            · exact h2 i o hi
      rcases hc with ⟨rfl, rfl⟩ | ⟨b, cap, cs', t, fr, rfl, h2, h3⟩
      · exact key none 0 rfl (fun ρ' => .inl ⟨rfl, rfl⟩)
      · exact key (some b) cap rfl (fun ρ' => .inr ⟨b, cs', t, fr, rfl, h2, h3⟩)

def Arg.unpack : Arg → Value → Option (List Value)
  | .c _, v => some [v]
  | .a l, .agg ⟨us⟩ => match Nat.beq us.length l.length with
    | true => some us
    | false => none
  | .a _, _ => none
def unpackL : List Arg → List Value → Option (List Value)
  | [], [] => some []
  | a :: r, v :: vs => match a.unpack v, unpackL r vs with
    | some us, some us' => some (us ++ us')
    | _, _ => none
  | _, _ => none
/-- A result's cells. -/
def unpackV (rs : List Arg) (v : Value) : Option (List Value) :=
  match rs with
  | [a] => a.unpack v
  | rs => match v with
    | .tuple ⟨vs⟩ => unpackL rs vs
    | _ => none

theorem unpack_pack {a : Arg} {v : Value} {us : List Value} (h : a.unpack v = some us) (ρ : Num) : us.length = a.cells.length ∧ rv ρ v = a.pack (rvL ρ us) := by
  unfold Arg.unpack at h
  split at h
  · cases h; exact ⟨rfl, rfl⟩
  · split at h
    case h_2 => cases h
    rename_i hl
    cases h
    exact ⟨Nat.eq_of_beq_eq_true hl, by simp [rv, rvA, Arg.pack]⟩
  · cases h

theorem rvL_length (ρ : Num) (l : List Value) : (rvL ρ l).length = l.length := by rw [rvL_eq, List.length_map]
theorem rvL_app (ρ : Num) (a b : List Value) : rvL ρ (a ++ b) = rvL ρ a ++ rvL ρ b := by rw [rvL_eq, rvL_eq, rvL_eq, List.map_append]

theorem unpackL_pack (ρ : Num) : ∀ {rs : List Arg} {vs us : List Value}, unpackL rs vs = some us → us.length = (cellsA rs).length ∧ rvL ρ vs = packL rs (rvL ρ us)
  | [], [], us, h => by cases h; exact ⟨rfl, rfl⟩
  | a :: r, v :: vs, us, h => by
    unfold unpackL at h
    split at h
    case h_2 => cases h
    rename_i u1 u2 h1 h2
    cases h
    obtain ⟨g1, g2⟩ := unpack_pack h1 ρ
    obtain ⟨g3, g4⟩ := unpackL_pack ρ h2
    refine ⟨by simp [cellsA, g1, g3], ?_⟩
    simp only [rvL, packL]
    rw [rvL_app, ← g1, ← rvL_length ρ u1, List.take_left, List.drop_left, g2, g4]
  | [], _ :: _, us, h => by cases h
  | _ :: _, [], us, h => by cases h

theorem unpackV_pack {rs : List Arg} {v : Value} {us : List Value} (h : unpackV rs v = some us) (ρ : Num) : us.length = (cellsA rs).length ∧ rv ρ v = oneOf (packL rs (rvL ρ us)) := by
  unfold unpackV at h
  split at h
  · rename_i a
    obtain ⟨h1, h2⟩ := unpack_pack h ρ
    refine ⟨by simp [cellsA, h1], ?_⟩
    rw [h2]
    simp only [packL, oneOf]
    rw [← h1, ← rvL_length ρ us, List.take_length]
  · rename_i hne
    split at h
    case h_2 => cases h
    rename_i vs
    obtain ⟨h1, h2⟩ := unpackL_pack ρ h
    refine ⟨h1, ?_⟩
    simp only [rv, rvA, h2]
    cases rs with
    | nil => rfl
    | cons a r =>
      cases r with
      | nil => exact absurd rfl (hne a)
      | cons a2 r2 => rfl

/-- Is a result's cell az is told? Which number its row has; what must be shown. -/
def decC (h : Heap) : Cel → Value → Option (List Nat × List Prop)
  | .v x, u => match pureV u with
    | true => some ([], [u = x])
    | false => none
  | .s e k xs, u => match u with
    | .slice none 0 0 => some ([], [xs = []])
    | .slice (some ⟨id, 0, some kk⟩) n 0 => match h.get id with
      | some (.row e' sz (.ints k' ys) kk') => match Nat.beq e' e && Nat.beq sz 1 && Nat.beq kk kk' && decide (k' = k) with
        | true => some ([id], [n = xs.length ∧ n ≤ ys.length ∧ ys.take n = xs])
        | false => none
      | _ => none
    | .slice (some ⟨id, 0, none⟩) n c => match h.get id with
      | some (.cells cs e') => match Nat.beq e' e, toInts k cs with
        | true, some l => some ([id], [n = xs.length ∧ n ≤ l.length ∧ l.take n = xs ∧ c = l.length ∧ c ≤ maxLen])
        | _, _ => none
      | _ => none
    | _ => none
  | .o _ _ _ _, _ => none
  | .f _ _ _ _, _ => none
def decL (h : Heap) : List Cel → List Value → Option (List Nat × List Prop)
  | [], [] => some ([], [])
  | c :: cs, u :: us => match decC h c u, decL h cs us with
    | some (i, l), some (i', l') => some (i ++ i', l ++ l')
    | _, _ => none
  | _, _ => none

theorem decC_sound {P : Program} {w w' : World} {ρ : Num} {h : Heap} (hS : Sim P w.heap.size (fun _ => False) ρ h w') {c : Cel} {u : Value} {ids : List Nat} {l : List Prop} (hd : decC h c u = some (ids, l)) (hl : allP l) :
    CelNew w w' c (rv ρ u) ∧ ∀ g, blk (rv ρ u) = some g → ∃ i ∈ ids, (∃ o, h.get i = some o ∧ o.rw = true) ∧ ρ i = some g := by
  cases c with
  | v x =>
    simp only [decC] at hd
    split at hd
    case h_2 => cases hd
    rename_i hp
    cases hd
    obtain rfl : u = x := hl.1
    refine ⟨⟨rv_pure ρ u hp, hp⟩, fun g hg => ?_⟩
    rw [rv_pure ρ u hp] at hg
    unfold blk at hg
    split at hg
    · simp [pureV] at hp
    · cases hg
  | s e k xs =>
    simp only [decC] at hd
    split at hd
    · cases hd
      obtain rfl : xs = [] := hl.1
      exact ⟨.inl ⟨by simp [rv], rfl⟩, fun g hg => by simp [rv, blk] at hg⟩
    · rename_i id kk n
      split at hd
      case h_2 => cases hd
      rename_i e' sz k' ys kk' hget
      split at hd
      case h_2 => cases hd
      rename_i hc
      simp only [Bool.and_eq_true, Nat.beq_eq, decide_eq_true_eq] at hc
      obtain ⟨⟨⟨rfl, rfl⟩, rfl⟩, rfl⟩ := hc
      cases hd
      obtain ⟨h1, h2, h3⟩ := hl.1
      rcases hS.obj id _ hget with ⟨g1, g2⟩ | ⟨b, cap, cur, g1, g2, g3, g4, g5, g6, g7, g8⟩
      · have hy : ys = [] := by simpa [Row.list] using g2
        subst hy
        have hn : n = 0 := by simpa using h2
        subst hn
        have hx : xs = [] := by simpa using h3.symm
        subst hx
        exact ⟨.inl ⟨by simp [rv, rSl, g1], rfl⟩, fun g hg => by simp [rv, rSl, g1, blk] at hg⟩
      · have e1 : rvL ρ (ys.map (Value.int k')) = ys.map (Value.int k') := rvL_pure _ _ (by rw [pureL_eq, List.all_eq_true]; intro x hx; obtain ⟨y, _, rfl⟩ := List.mem_map.1 hx; rfl)
        simp only [Row.list, List.length_map, Nat.mul_one] at g6 g7 g8
        refine ⟨.inr ⟨b, cap, cur, by simp [rv, rSl, g1, g2, h1], g4.elim (fun h => h) False.elim, g3, g5, g6, by omega, ?_⟩, fun g hg => ⟨id, List.mem_singleton.2 rfl, ⟨_, hget, rfl⟩, ?_⟩⟩
        · rw [← h1, ← h3, List.map_take, ← e1, ← g8, List.take_take, Nat.min_eq_left h2]
        · simp [rv, rSl, g1, blk] at hg
          rw [g1, hg]
    · rename_i id n c
      split at hd
      case h_2 => cases hd
      rename_i cs e' hget
      split at hd
      case h_2 => cases hd
      rename_i l' he ht
      have he := Nat.eq_of_beq_eq_true he
      subst he
      cases hd
      obtain ⟨h1, h2, h3, h4, h5⟩ := hl.1
      obtain ⟨b, g1, g2, g3⟩ := hS.obj id _ hget
      have g3 : w.heap.size ≤ b := g3.elim (fun h => h) (fun h => h.elim)
      have hcs := toInts_spec ht
      have e1 : rvL ρ cs = l'.map (Value.int k) := by rw [hcs]; exact rvL_pure _ _ (by rw [pureL_eq, List.all_eq_true]; intro x hx; obtain ⟨y, _, rfl⟩ := List.mem_map.1 hx; rfl)
      rw [e1] at g2
      refine ⟨.inr ⟨b, c, _, by simp [rv, rSl, rAddr, g1, h1], g3, .of g2, h5, by simp [h4], by omega, ?_⟩, fun g hg => ⟨id, List.mem_singleton.2 rfl, ⟨_, hget, rfl⟩, ?_⟩⟩
      · rw [← h1, ← h3]
        simp [List.map_take]
      · simp [rv, rSl, rAddr, g1, blk] at hg
        rw [g1, hg]
    · cases hd
  | o k ys off n => cases hd
  | f g m sz off => cases hd

def nodupN : List Nat → Bool
  | [] => true
  | i :: r => !(memN i r) && nodupN r

theorem memN_mem {i : Nat} : ∀ {l : List Nat}, memN i l = false → i ∉ l
  | [], _, h => by cases h
  | j :: r, h, hm => by
    simp only [memN, Bool.or_eq_false_iff] at h
    rcases List.mem_cons.1 hm with rfl | hm
    · simp at h
    · exact memN_mem h.2 hm

theorem nodupN_sound : ∀ {l : List Nat}, nodupN l = true → l.Nodup
  | [], _ => List.nodup_nil
  | i :: r, h => by
    simp only [nodupN, Bool.and_eq_true, Bool.not_eq_true'] at h
    exact List.nodup_cons.2 ⟨memN_mem h.1, nodupN_sound h.2⟩

theorem decL_sound {P : Program} {w w' : World} {ρ : Num} {h : Heap} (hS : Sim P w.heap.size (fun _ => False) ρ h w') : ∀ {cs : List Cel} {us : List Value} {ids : List Nat} {l : List Prop}, decL h cs us = some (ids, l) → allP l → ids.Nodup →
    All2 (CelNew w w') cs (rvL ρ us) ∧ ((rvL ρ us).filterMap blk).Nodup ∧ ∀ g ∈ (rvL ρ us).filterMap blk, ∃ i ∈ ids, (∃ o, h.get i = some o ∧ o.rw = true) ∧ ρ i = some g
  | [], [], ids, l, hd, _, _ => by cases hd; exact ⟨.nil, List.nodup_nil, fun g hg => by cases hg⟩
  | c :: cs, u :: us, ids, l, hd, hl, hn => by
    unfold decL at hd
    split at hd
    case h_2 => cases hd
    rename_i i1 l1 i2 l2 h1 h2
    cases hd
    obtain ⟨hl1, hl2⟩ := (allP_append _ _).1 hl
    obtain ⟨n1, n2, n3⟩ := List.nodup_append.1 hn
    obtain ⟨a1, a2⟩ := decC_sound hS h1 hl1
    obtain ⟨b1, b2, b3⟩ := decL_sound hS h2 hl2 n2
    refine ⟨.cons a1 b1, ?_, ?_⟩
    · simp only [rvL, List.filterMap_cons]
      split
      · exact b2
      · rename_i g hg
        refine List.nodup_cons.2 ⟨fun hm => ?_, b2⟩
        obtain ⟨i, hi, ⟨o, ho, hr⟩, hb⟩ := a2 g hg
        obtain ⟨j, hj, ⟨o', ho', hr'⟩, hb'⟩ := b3 g hm
        exact hS.inj i j o o' ho hr ho' (n3 i hi j hj) (by rw [hb]; simp) (hb.trans hb'.symm)
    · intro g hg
      simp only [rvL, List.filterMap_cons] at hg
      split at hg
      · obtain ⟨i, hi, hr⟩ := b3 g hg
        exact ⟨i, List.mem_append_right _ hi, hr⟩
      · rename_i g' hg'
        rcases List.mem_cons.1 hg with rfl | hg
        · obtain ⟨i, hi, hr⟩ := a2 g hg'
          exact ⟨i, List.mem_append_left _ hi, hr⟩
        · obtain ⟨i, hi, hr⟩ := b3 g hg
          exact ⟨i, List.mem_append_right _ hi, hr⟩
  | [], _ :: _, _, _, hd, _, _ => by cases hd
  | _ :: _, [], _, _, hd, _, _ => by cases hd

/-- One way through a function, reckoned: what is left open, what must be shown of the results. -/
def semR (X : Cx) (L : Hints) (fuel f : Nat) (az rs : List Arg) (ds : List Bool) : Option (List Prop) :=
  match encA X.P.globals.size (cellsA az) with
  | (us, H, n) => match evFn X L fuel f (packL az us) H n ds with
    | none => none
    | some r => match unpackV rs r.v with
      | none => none
      | some us' => match decL r.h (cellsA rs) us' with
        | none => none
        | some (ids, l) => match nodupN ids with
          | true => some (r.obs ++ l)
          | false => none

theorem packL_rv (ρ : Num) : ∀ (az : List Arg) (us : List Value), us.length = (cellsA az).length → rvL ρ (packL az us) = packL az (rvL ρ us)
  | [], us, _ => rfl
  | a :: r, us, h => by
    simp only [packL, rvL]
    have h : us.length = a.cells.length + (cellsA r).length := by simpa [cellsA] using h
    rw [packL_rv ρ r (us.drop a.cells.length) (by rw [List.length_drop]; omega)]
    have e1 : rvL ρ (us.drop a.cells.length) = (rvL ρ us).drop a.cells.length := by rw [rvL_eq, rvL_eq, List.map_drop]
    have e2 : rvL ρ (us.take a.cells.length) = (rvL ρ us).take a.cells.length := by rw [rvL_eq, rvL_eq, List.map_take]
    rw [e1, ← e2]
    congr 1
    cases a with
    | c x =>
      cases us with
      | nil => simp [Arg.cells] at h; omega
      | cons u us => simp [Arg.pack, Arg.cells, rvL]
    | a l => simp [Arg.pack, rv, rvA]

theorem sem_of {b : Base} (hb : BaseOk b) (k : Nat) (L : Hints) (ds : List Bool) {f : FuncId} {az rs : List Arg} {l : List Prop} (h : semR (b.cx k) L b.fuel f az rs ds = some l) (hl : allP l) : Sem b.P b.J f az rs := by
  obtain ⟨hX, hng⟩ := Base.cx_ok hb k
  have eP : ∀ k, (b.cx k).P = b.P := fun k => by cases k <;> rfl
  have eJ : ∀ k, HEq (b.cx k).J b.J := fun k => by cases k <;> rfl
  suffices hs : Sem (b.cx k).P (b.cx k).J f az rs by
    cases k <;> exact hs
  generalize b.cx k = X at *
  unfold semR at h
  simp only at h
  split at h
  case h_1 => cases h
  rename_i r hev
  split at h
  case h_1 => cases h
  rename_i us' hun
  split at h
  case h_1 => cases h
  rename_i ids l' hdec
  split at h
  case h_2 => cases h
  rename_i hnd
  cases h
  obtain ⟨hl1, hl2⟩ := (allP_append _ _).1 hl
  refine ⟨evFn_enters hng hev, fun w us hI hA => ?_⟩
  obtain ⟨ρ, ha, hρ⟩ := encA_ok w.heap.size (fun _ => False) w (cellsA az) us hA X.P.globals.size (fun i => some i)
  have hp : Par X.P w.heap.size (fun _ => False) := ⟨X.J.room w hI, fun _ _ h => h⟩
  have hlen : (encA X.P.globals.size (cellsA az)).1.length = (cellsA az).length := by
    have := congrArg List.length (hρ ρ (Agree.refl _ _)).1
    rw [rvL_length] at this
    rw [← this, hA.length]
  have hS : ∀ ρ', Agree (encA X.P.globals.size (cellsA az)).2.2 ρ ρ' → Sim X.P w.heap.size (fun _ => False) ρ' (encA X.P.globals.size (cellsA az)).2.1 w ∧ packL az us = rvL ρ' (packL az (encA X.P.globals.size (cellsA az)).1) := by
    intro ρ' ha'
    obtain ⟨h1, h2⟩ := hρ ρ' ha'
    have hle := encA_le (cellsA az) X.P.globals.size
    refine ⟨⟨fun g hg => by rw [ha' g (by omega), ha g hg], h2, fun i j o o' hi hr _ _ => ?_⟩, ?_⟩
    · rw [(encA_low _ _ _ _ hi).2.2] at hr
      cases hr
    · rw [packL_rv ρ' az _ hlen, ← h1]
  refine (evFn_sound hX hng.mixed hev hl1 hp (Nat.le_refl _) hI hS).2.mono fun e w' ⟨ρ1, v, _, he, hk, hfin⟩ => ?_
  obtain ⟨hv, hsim⟩ := hfin ρ1 (Agree.refl _ _)
  obtain ⟨_, hpack⟩ := unpackV_pack hun ρ1
  obtain ⟨d1, d2, _⟩ := decL_sound hsim hdec hl2 (nodupN_sound hnd)
  exact ⟨rvL ρ1 us', by rw [he, hv, hpack], hk.below, d1, d2⟩

/-! Into the evaluator. -/

/-- A cell's shape. -/
inductive CS where
  | v
  | s (e : TypeId) (k : IntKind)
  | o (k : IntKind)
inductive AS where
  | c (x : CS)
  | a (l : List CS)

/-- The numbers that a slice holds. -/
def slOf (H : Heap) (k : IntKind) (x : Value) : Option (List Int × List Prop) :=
  match x with
  | .slice none 0 0 => some ([], [])
  | .slice (some ⟨id, 0, some _⟩) n 0 => match H.get id with
    | some (.ints k' xs) => match decide (k' = k) with
      | true => some (xs, [n = xs.length])
      | false => none
    | some (.row _ sz (.ints k' xs) _) => match decide (k' = k) && Nat.beq sz 1 with
      | true => some (xs.take n, [n ≤ xs.length])
      | false => none
    | _ => none
  | .slice (some ⟨id, 0, none⟩) n _ => match H.get id with
    | some (.cells cs _) => match toInts k cs with
      | some l => some (l.take n, [n ≤ l.length])
      | none => none
    | _ => none
  | _ => none

def parC (H : Heap) : CS → Value → Option (Cel × List Prop)
  | .v, x => match pureV x with
    | true => some (.v x, [])
    | false => none
  | .s e k, x => match slOf H k x with
    | some (xs, l) => some (.s e k xs, l)
    | none => none
  | .o k, x => match x with
    | .slice (some ⟨id, off, some _⟩) n _ => match H.get id with
      | some (.row _ sz (.ints k' ys) _) => match decide (k' = k) && Nat.beq sz 1 with
        | true => some (.o k ys off n, [off + n ≤ ys.length])
        | false => none
      | _ => none
    | _ => none
def parCs (H : Heap) : List CS → List Value → Option (List Cel × List Prop)
  | [], [] => some ([], [])
  | s :: ss, x :: xs => match parC H s x, parCs H ss xs with
    | some (c, l), some (cs, l') => some (c :: cs, l ++ l')
    | _, _ => none
  | _, _ => none
def parA (H : Heap) : AS → Value → Option (Arg × List Prop)
  | .c s, x => match parC H s x with
    | some (c, l) => some (.c c, l)
    | none => none
  | .a ss, .agg ⟨xs⟩ => match parCs H ss xs with
    | some (cs, l) => some (.a cs, l)
    | none => none
  | .a _, _ => none
def parL (H : Heap) : List AS → List Value → Option (List Arg × List Prop)
  | [], [] => some ([], [])
  | s :: ss, x :: xs => match parA H s x, parL H ss xs with
    | some (c, l), some (cs, l') => some (c :: cs, l ++ l')
    | _, _ => none
  | _, _ => none

theorem ints_rv (ρ : Num) (k : IntKind) (xs : List Int) : rvL ρ (xs.map (Value.int k)) = xs.map (Value.int k) :=
  rvL_pure _ _ (by rw [pureL_eq, List.all_eq_true]; intro x hx; obtain ⟨y, _, rfl⟩ := List.mem_map.1 hx; rfl)

theorem getD_take {xs : List Int} {n i : Nat} (h : i < n) (k : IntKind) (hi : i < xs.length) : (xs.map (Value.int k))[i]? = some (.int k ((xs.take n).getD i 0)) := by
  simp [List.getD, h, hi]

theorem slOf_sound {P : Program} {B : Nat} {M : Nat → Prop} {ρ : Num} {H : Heap} {w : World} (hS : Sim P B M ρ H w) {e : TypeId} {k : IntKind} {x : Value} {xs : List Int} {l : List Prop} (h : slOf H k x = some (xs, l)) (hl : allP l) : CelIs w (.s e k xs) (rv ρ x) := by
  unfold slOf at h
  split at h
  · cases h
    exact .inl ⟨by simp [rv], rfl⟩
  · rename_i id kk n
    split at h
    · rename_i k' ys hget
      split at h
      case h_2 => cases h
      rename_i hk
      have hk := of_decide_eq_true hk
      subst hk
      cases h
      obtain rfl : n = xs.length := hl.1
      rcases hS.obj id _ hget with ⟨g1, g2⟩ | ⟨b, cs, t, fr, g1, g2, g3⟩
      · subst g2
        exact .inl ⟨by simp [rv, rSl, g1], rfl⟩
      · obtain ⟨c', q⟩ := rSl_at (off := 0) (sp := some kk) (n := xs.length) (c := 0) g1
        exact .inr ⟨b, c', cs, t, fr, q, g2, g3⟩
    · rename_i e' sz k' ys kk' hget
      split at h
      case h_2 => cases h
      rename_i hc
      simp only [Bool.and_eq_true, Nat.beq_eq, decide_eq_true_eq] at hc
      obtain ⟨rfl, rfl⟩ := hc
      cases h
      have hn : n ≤ ys.length := hl.1
      rcases hS.obj id _ hget with ⟨g1, g2⟩ | ⟨b, cap, cur, g1, g2, ⟨fr, g3, _⟩, g4, g5, g6, g7, g8⟩
      · have hy : ys = [] := by simpa [Row.list] using g2
        subst hy
        have hn : n = 0 := by simpa using hn
        subst hn
        exact .inl ⟨by simp [rv, rSl, g1], rfl⟩
      · obtain ⟨c', q⟩ := rSl_at (off := 0) (sp := some kk) (n := n) (c := 0) g1
        have hlen : (ys.take n).length = n := by rw [List.length_take, Nat.min_eq_left hn]
        refine .inr ⟨b, c', cur, e', fr, by rw [hlen]; exact q, g3, fun i hi => ?_⟩
        rw [hlen] at hi
        simp only [Row.list] at g8
        rw [ints_rv, List.length_map] at g8
        rw [← getD_take hi k' (by omega), ← g8, List.getElem?_take, if_pos (by omega)]
        simp
    · cases h
  · rename_i id n c
    split at h
    case h_2 => cases h
    rename_i cs e' hget
    split at h
    case h_2 => cases h
    rename_i l' ht
    cases h
    have hn : n ≤ l'.length := hl.1
    obtain ⟨b, g1, g2, _⟩ := hS.obj id _ hget
    have hcs := toInts_spec ht
    subst hcs
    rw [ints_rv] at g2
    have hlen : (l'.take n).length = n := by rw [List.length_take, Nat.min_eq_left hn]
    refine .inr ⟨b, c, _, e', (0, 0), by rw [hlen]; simp [rv, rSl, rAddr, g1], g2, fun i hi => ?_⟩
    rw [hlen] at hi
    rw [← getD_take hi k (by omega)]
    simp
  · cases h

theorem parC_sound {P : Program} {B : Nat} {M : Nat → Prop} {ρ : Num} {H : Heap} {w : World} (hS : Sim P B M ρ H w) {sh : CS} {x : Value} {c : Cel} {l : List Prop} (h : parC H sh x = some (c, l)) (hl : allP l) : CelIs w c (rv ρ x) := by
  unfold parC at h
  split at h
  · split at h
    case h_2 => cases h
    rename_i hp
    cases h
    exact ⟨rv_pure ρ x hp, hp⟩
  · split at h
    case h_2 => cases h
    rename_i hs
    cases h
    exact slOf_sound hS hs hl
  · split at h
    case h_2 => cases h
    rename_i id off kk n c
    split at h
    case h_2 => cases h
    rename_i e' sz k' ys kk' hget
    split at h
    case h_2 => cases h
    rename_i hc
    simp only [Bool.and_eq_true, Nat.beq_eq, decide_eq_true_eq] at hc
    obtain ⟨rfl, rfl⟩ := hc
    cases h
    have hn : off + n ≤ ys.length := hl.1
    rcases hS.obj id _ hget with ⟨g1, g2⟩ | ⟨b, cap, cur, g1, g2, ⟨fr, g3, _⟩, g4, g5, g6, g7, g8⟩
    · have hy : ys = [] := by simpa [Row.list] using g2
      subst hy
      simp only [List.length_nil] at hn
      obtain rfl : off = 0 := by omega
      obtain rfl : n = 0 := by omega
      exact .inl ⟨by simp [rv, rSl, g1], rfl, rfl, rfl⟩
    · obtain ⟨c', q⟩ := rSl_at (off := off) (sp := some kk) (n := n) (c := c) g1
      refine .inr ⟨b, c', cur, e', fr, q, g3, fun i hi => ?_⟩
      simp only [Row.list] at g8
      rw [ints_rv, List.length_map] at g8
      have := getD_take (xs := ys) (n := ys.length) hi k' hi
      rw [List.take_length, ← g8, List.getElem?_take, if_pos hi] at this
      simpa using this

theorem parCs_sound {P : Program} {B : Nat} {M : Nat → Prop} {ρ : Num} {H : Heap} {w : World} (hS : Sim P B M ρ H w) : ∀ {sh : List CS} {xs : List Value} {cs : List Cel} {l : List Prop}, parCs H sh xs = some (cs, l) → allP l → All2 (CelIs w) cs (rvL ρ xs)
  | [], [], cs, l, h, _ => by cases h; exact .nil
  | s :: ss, x :: xs, cs, l, h, hl => by
    unfold parCs at h
    split at h
    case h_2 => cases h
    rename_i c l1 cs' l2 h1 h2
    cases h
    obtain ⟨hl1, hl2⟩ := (allP_append _ _).1 hl
    exact .cons (parC_sound hS h1 hl1) (parCs_sound hS h2 hl2)
  | [], _ :: _, _, _, h, _ => by cases h
  | _ :: _, [], _, _, h, _ => by cases h

theorem parL_sound {P : Program} {B : Nat} {M : Nat → Prop} {ρ : Num} {H : Heap} {w : World} (hS : Sim P B M ρ H w) : ∀ {sh : List AS} {xs : List Value} {az : List Arg} {l : List Prop}, parL H sh xs = some (az, l) → allP l → ∃ us, All2 (CelIs w) (cellsA az) us ∧ rvL ρ xs = packL az us
  | [], [], az, l, h, _ => by cases h; exact ⟨[], .nil, rfl⟩
  | s :: ss, x :: xs, az, l, h, hl => by
    unfold parL at h
    split at h
    case h_2 => cases h
    rename_i a l1 az' l2 h1 h2
    cases h
    obtain ⟨hl1, hl2⟩ := (allP_append _ _).1 hl
    obtain ⟨us, g1, g2⟩ := parL_sound hS h2 hl2
    unfold parA at h1
    split at h1
    · split at h1
      case h_2 => cases h1
      rename_i c l0 hc
      cases h1
      refine ⟨rv ρ x :: us, .cons (parC_sound hS hc hl1) g1, ?_⟩
      simp [rvL, packL, Arg.cells, Arg.pack, g2]
    · split at h1
      case h_2 => cases h1
      rename_i cs l0 hc
      cases h1
      have hcs := parCs_sound hS hc hl1
      refine ⟨rvL ρ _ ++ us, hcs.append g1, ?_⟩
      simp only [rvL, packL, Arg.cells, Arg.pack]
      rw [hcs.length, List.take_left, List.drop_left, g2]
      simp [rv, rvA]
    · cases h1
  | [], _ :: _, _, _, h, _ => by cases h
  | _ :: _, [], _, _, h, _ => by cases h

/-- Results as abstract values, their rows, which are one's own, under numbers from n on. -/
def encR (n : Nat) : List Cel → List Value × Heap × Nat
  | [] => ([], [], n)
  | .v x :: r => match encR n r with
    | (vs, h, m) => (x :: vs, h, m)
  | .s e k xs :: r => match encR (n + 2) r with
    | (vs, h, m) => (.slice (some ⟨n, 0, some (n + 1)⟩) xs.length 0 :: vs, (n, .row e 1 (.ints k xs) (n + 1)) :: h, m)
  | .o _ _ _ _ :: r => encR n r
  | .f _ _ _ _ :: r => encR n r

theorem encR_le : ∀ (cs : List Cel) (n : Nat), n ≤ (encR n cs).2.2
  | [], n => Nat.le_refl _
  | .v x :: r, n => encR_le r n
  | .s e k xs :: r, n => by
    have := encR_le r (n + 2)
    show n ≤ (encR (n + 2) r).2.2
    omega
  | .o _ _ _ _ :: r, n => encR_le r n
  | .f _ _ _ _ :: r, n => encR_le r n

theorem encR_low : ∀ (cs : List Cel) (n : Nat) (i : Nat) (o : AObj), (encR n cs).2.1.get i = some o → n ≤ i ∧ i < (encR n cs).2.2
  | [], n, i, o, h => by cases h
  | .v x :: r, n, i, o, h => encR_low r n i o h
  | .s e k xs :: r, n, i, o, h => by
    change Heap.get ((n, .row e 1 (.ints k xs) (n + 1)) :: (encR (n + 2) r).2.1) i = some o at h
    rw [Heap.get_cons] at h
    have hle := encR_le r (n + 2)
    show n ≤ i ∧ i < (encR (n + 2) r).2.2
    split at h
    · rename_i e
      exact ⟨by omega, by omega⟩
    · have := encR_low r (n + 2) i o h
      exact ⟨by omega, by omega⟩
  | .o _ _ _ _ :: r, n, i, o, h => encR_low r n i o h
  | .f _ _ _ _ :: r, n, i, o, h => encR_low r n i o h

theorem encR_ok {B : Nat} (M : Nat → Prop) {w w' : World} (hB : B ≤ w.heap.size) : ∀ (cs : List Cel) (us : List Value), All2 (CelNew w w') cs us → (us.filterMap blk).Nodup → ∀ (n : Nat) (ρ0 : Num), ∃ ρ, Agree n ρ0 ρ ∧ ∀ ρ', Agree (encR n cs).2.2 ρ ρ' →
    us = rvL ρ' (encR n cs).1 ∧ (∀ i o, (encR n cs).2.1.get i = some o → ORep B M ρ' w' (ρ' i) o ∧ (∀ g, ρ' i = some g → w.heap.size ≤ g ∧ g ∈ us.filterMap blk)) ∧ ∀ i j o o', (encR n cs).2.1.get i = some o → (encR n cs).2.1.get j = some o' → i ≠ j → ρ' i ≠ none → ρ' i ≠ ρ' j := by
  intro cs us h
  induction h with
  | nil => exact fun _ n ρ0 => ⟨ρ0, Agree.refl _ _, fun ρ' _ => ⟨rfl, (fun i o h => by cases h), (fun i j o o' h => by cases h)⟩⟩
  | @cons c u cs us hc _ ih =>
    intro hnd n ρ0
    have hnd2 : (us.filterMap blk).Nodup := by
      rw [List.filterMap_cons] at hnd
      split at hnd
      · exact hnd
      · exact (List.nodup_cons.1 hnd).2
    cases c with
    | v x =>
      obtain ⟨rfl, hp⟩ := hc
      obtain ⟨ρ, ha, hρ⟩ := ih hnd2 n ρ0
      refine ⟨ρ, ha, fun ρ' ha' => ?_⟩
      obtain ⟨h1, h2, h3⟩ := hρ ρ' ha'
      refine ⟨?_, fun i o hi => ⟨(h2 i o hi).1, fun g hg => ⟨((h2 i o hi).2 g hg).1, ?_⟩⟩, h3⟩
      · show u :: us = rvL ρ' (u :: (encR n cs).1)
        simp only [rvL, rv_pure ρ' u hp, ← h1]
      · have := ((h2 i o hi).2 g hg).2
        rw [List.filterMap_cons]
        split
        · exact this
        · exact List.mem_cons_of_mem _ this
    | s e k xs =>
      have key : ∀ (ob : Option Nat) (cap : Nat), (u = match ob with | none => .slice none xs.length 0 | some g => .slice (some ⟨g, 0, none⟩) xs.length cap) → (∀ ρ', ρ' (n + 1) = some cap → ORep B M ρ' w' ob (.row e 1 (.ints k xs) (n + 1))) → (∀ g, ob = some g → w.heap.size ≤ g) → ∃ ρ, Agree n ρ0 ρ ∧ ∀ ρ', Agree (encR n (.s e k xs :: cs)).2.2 ρ ρ' →
          u :: us = rvL ρ' (encR n (.s e k xs :: cs)).1 ∧ (∀ i o, (encR n (.s e k xs :: cs)).2.1.get i = some o → ORep B M ρ' w' (ρ' i) o ∧ (∀ g, ρ' i = some g → w.heap.size ≤ g ∧ g ∈ (u :: us).filterMap blk)) ∧
          ∀ i j o o', (encR n (.s e k xs :: cs)).2.1.get i = some o → (encR n (.s e k xs :: cs)).2.1.get j = some o' → i ≠ j → ρ' i ≠ none → ρ' i ≠ ρ' j := by
        intro ob cap hu ho hge
        obtain ⟨ρ, ha, hρ⟩ := ih hnd2 (n + 2) (fun i => if i = n then ob else if i = n + 1 then some cap else ρ0 i)
        refine ⟨ρ, fun i hi => ?_, fun ρ' ha' => ?_⟩
        · rw [ha i (by omega)]
          show (if i = n then ob else if i = n + 1 then some cap else ρ0 i) = ρ0 i
          rw [if_neg (by omega), if_neg (by omega)]
        · obtain ⟨h1, h2, h3⟩ := hρ ρ' ha'
          have hle := encR_le cs (n + 2)
          have hn : ρ' n = ob := by
            rw [ha' n (by show n < (encR (n + 2) cs).2.2; omega), ha n (by omega)]
            simp
          have hk : ρ' (n + 1) = some cap := by
            rw [ha' (n + 1) (by show n + 1 < (encR (n + 2) cs).2.2; omega), ha (n + 1) (by omega)]
            simp
          have hbu : ∀ g, ob = some g → blk u = some g := fun g hg => by rw [hu, hg]; rfl
          have hne : ∀ j o', (encR (n + 2) cs).2.1.get j = some o' → ∀ g, ob = some g → ρ' j ≠ some g := fun j o' hj g hg e => by
            have hm := ((h2 j o' hj).2 g e).2
            rw [List.filterMap_cons, hbu g hg] at hnd
            exact (List.nodup_cons.1 hnd).1 hm
          refine ⟨?_, fun i o hi => ?_, fun i j o o' hi hj hij hnn => ?_⟩
          · show u :: us = rvL ρ' (.slice (some ⟨n, 0, some (n + 1)⟩) xs.length 0 :: (encR (n + 2) cs).1)
            rw [rvL, ← h1, hu]
            cases ob with
            | none => simp [rv, rSl, hn]
            | some g => simp [rv, rSl, hn, hk]
          · change Heap.get ((n, .row e 1 (.ints k xs) (n + 1)) :: (encR (n + 2) cs).2.1) i = some o at hi
            rw [Heap.get_cons] at hi
            split at hi
            · rename_i e'
              subst e'
              cases hi
              rw [hn]
              refine ⟨ho ρ' hk, fun g hg => ⟨hge g hg, ?_⟩⟩
              rw [List.filterMap_cons, hbu g hg]
              exact List.mem_cons_self ..
            · refine ⟨(h2 i o hi).1, fun g hg => ⟨((h2 i o hi).2 g hg).1, ?_⟩⟩
              have := ((h2 i o hi).2 g hg).2
              rw [List.filterMap_cons]
              split
              · exact this
              · exact List.mem_cons_of_mem _ this
          · change Heap.get ((n, .row e 1 (.ints k xs) (n + 1)) :: (encR (n + 2) cs).2.1) i = some o at hi
            change Heap.get ((n, .row e 1 (.ints k xs) (n + 1)) :: (encR (n + 2) cs).2.1) j = some o' at hj
            rw [Heap.get_cons] at hi hj
            split at hi <;> split at hj
            · omega
            · rename_i e1 _
              subst e1
              rw [hn] at hnn ⊢
              cases ob with
              | none => exact absurd rfl hnn
              | some g => exact fun e => hne j o' hj g rfl e.symm
            · rename_i _ e1
              subst e1
              rw [hn]
              cases ob with
              | none => exact hnn
              | some g => exact hne i o hi g rfl
            · exact h3 i j o o' hi hj hij hnn
      rcases hc with ⟨rfl, rfl⟩ | ⟨g, cap, cur, rfl, h1, h2, h3, h4, h5, h6⟩
      · exact key none 0 rfl (fun ρ' _ => .inl ⟨rfl, rfl⟩) (fun g hg => by cases hg)
      · refine key (some g) cap rfl (fun ρ' hk => .inr ⟨g, cap, cur, rfl, hk, h2, .inl (by omega), h3, by omega, by simpa [Row.list] using h5, ?_⟩) (fun g' hg => by cases hg; exact h1)
        simp only [Row.list]
        rw [ints_rv, List.length_map]
        exact h6
    | o k ys off n => exact hc.elim
    | f g m sz off => exact hc.elim

/-- The contract as the evaluator's tables want it. -/
def liftS (sh : List AS) (spec : List Arg → Option (List Arg × List Prop)) (args : List Value) (H : Heap) (n : Nat) (ds : List Bool) : Option CR :=
  match parL H sh args with
  | none => none
  | some (az, l) => match spec az with
    | none => none
    | some (rs, l') => match encR n (cellsA rs) with
      | (us, h, m) => some ⟨oneOf (packL rs us), h ++ H, m, l ++ l', ds⟩

theorem Heap.get_app (F H : Heap) (i : Nat) : Heap.get (F ++ H) i = match F.get i with | some o => some o | none => H.get i := by
  induction F with
  | nil => rfl
  | cons x F ih =>
    obtain ⟨j, o⟩ := x
    rw [List.cons_append, Heap.get_cons, Heap.get_cons, ih]
    split <;> rfl

theorem sim_app {P : Program} {B : Nat} {M : Nat → Prop} {ρ : Num} {F H : Heap} {w w' : World} (hS : Sim P B M ρ H w) (hb : Below w.heap.size w w')
    (hF : ∀ i o, F.get i = some o → ORep B M ρ w' (ρ i) o ∧ ∀ g, ρ i = some g → w.heap.size ≤ g) (hinj : ∀ i j o o', F.get i = some o → F.get j = some o' → i ≠ j → ρ i ≠ none → ρ i ≠ ρ j) : Sim P B M ρ (F ++ H) w' := by
  have low : ∀ k ok, H.get k = some ok → ∀ g, ρ k = some g → g < w.heap.size := fun k ok hk g hg => by
    have := hS.obj k ok hk
    rw [hg] at this
    exact this.lt
  have hold := hS.below hb
  refine ⟨hS.glob, fun i o hi => ?_, fun i j o o' hi hr hj hij hnn => ?_⟩
  · rw [Heap.get_app] at hi
    split at hi
    · rename_i h; cases hi; exact (hF i _ h).1
    · exact hold.obj i o hi
  · rw [Heap.get_app] at hi hj
    cases h1 : F.get i with
    | some q =>
      cases h2 : F.get j with
      | some q' => exact hinj i j q q' h1 h2 hij hnn
      | none =>
        rw [h2] at hj
        intro e
        cases hq : ρ i with
        | none => exact hnn hq
        | some g =>
          have a := (hF i _ h1).2 g hq
          have b := low j o' hj g (by rw [← e]; exact hq)
          omega
    | none =>
      rw [h1] at hi
      cases h2 : F.get j with
      | some q' =>
        intro e
        cases hq : ρ i with
        | none => exact hnn hq
        | some g =>
          have a := (hF j _ h2).2 g (by rw [← e]; exact hq)
          have b := low i o hi g hq
          omega
      | none =>
        rw [h2] at hj
        exact hold.inj i j o o' hi hr hj hij hnn

def SpecOk (P : Program) (J : Inv P) (f : FuncId) (spec : List Value → Heap → Nat → List Bool → Option CR) : Prop :=
  ∀ args H n ds r, spec args H n ds = some r → allP r.obs → n ≤ r.n ∧ Enters P f ∧ ∀ (B : Nat) (M : Nat → Prop) (ρ : Num) (w : World) (vs : List Value), Par P B M → B ≤ w.heap.size → J.I w →
    (∀ ρ', Agree n ρ ρ' → Sim P B M ρ' H w ∧ vs = rvL ρ' args) →
    Calls P f ⟨vs⟩ w fun e w' => ∃ ρ1 v, Agree n ρ ρ1 ∧ e = .returned v ∧ Keeps B M w w' ∧ ∀ ρ', Agree r.n ρ1 ρ' → v = rv ρ' r.v ∧ Sim P B M ρ' r.h w'

def mtabAdd (f : FuncId) (spec : List Value → Heap → Nat → List Bool → Option CR) (t : MTab) : MTab := fun g args H n ds =>
  match Nat.beq g f with
  | true => spec args H n ds
  | false => t g args H n ds

theorem mtabAdd_ok {P : Program} {J : Inv P} {f : FuncId} {spec : List Value → Heap → Nat → List Bool → Option CR} {t : MTab} (h : SpecOk P J f spec) (ht : ClOk P J t) : ClOk P J (mtabAdd f spec t) := by
  intro g args H n ds r hs hl
  unfold mtabAdd at hs
  split at hs
  · rename_i hg
    have := Nat.eq_of_beq_eq_true hg
    subst this
    exact h args H n ds r hs hl
  · exact ht g args H n ds r hs hl

theorem oneOf_rv (ρ : Num) (l : List Value) : rv ρ (oneOf l) = oneOf (rvL ρ l) := by
  cases l with
  | nil => simp [oneOf, rv, rvA, rvL]
  | cons v l =>
    cases l with
    | nil => simp [oneOf, rvL]
    | cons u l => simp [oneOf, rv, rvA, rvL]

theorem liftS_ok {P : Program} {J : Inv P} {f : FuncId} (sh : List AS) {spec : List Arg → Option (List Arg × List Prop)} (h : ∀ az rs l, spec az = some (rs, l) → allP l → Sem P J f az rs) : SpecOk P J f (liftS sh spec) := by
  intro args H n ds r hs hl
  unfold liftS at hs
  split at hs
  · cases hs
  rename_i az l hpar
  split at hs
  · cases hs
  rename_i rs l' hspec
  cases hs
  obtain ⟨hl1, hl2⟩ := (allP_append _ _).1 hl
  obtain ⟨hent, hsem⟩ := h az rs l' hspec hl2
  refine ⟨encR_le _ _, hent, fun B M ρ w vs hp hB hI hS => ?_⟩
  obtain ⟨hS0, hvs⟩ := hS ρ (Agree.refl _ _)
  obtain ⟨us, hus, hpack⟩ := parL_sound hS0 hpar hl1
  rw [hvs, hpack]
  refine (hsem w us hI hus).mono fun e w' ⟨us', he, hb, hnew, hnd⟩ => ?_
  obtain ⟨ρ1, ha1, hρ1⟩ := encR_ok M hB _ _ hnew hnd n ρ
  refine ⟨ρ1, _, ha1, he, Keeps.of_below hb hB, fun ρ' ha' => ?_⟩
  obtain ⟨q1, q2, q3⟩ := hρ1 ρ' ha'
  have hag : Agree n ρ ρ' := fun i hi => by rw [ha' i (Nat.lt_of_lt_of_le hi (encR_le _ _)), ha1 i hi]
  refine ⟨?_, sim_app (hS ρ' hag).1 hb (fun i o hi => ⟨(q2 i o hi).1, fun g hg => ((q2 i o hi).2 g hg).1⟩) q3⟩
  show oneOf (packL rs us') = rv ρ' (oneOf (packL rs (encR n (cellsA rs)).1))
  have hlen : (encR n (cellsA rs)).1.length = (cellsA rs).length := by
    have := congrArg List.length q1
    rw [rvL_length] at this
    rw [← this, hnew.length]
  rw [oneOf_rv, packL_rv ρ' rs _ hlen, ← q1]

/-- The state in which the function comes to its first loop. -/
def semStart (X : Cx) (fuel f : Nat) (az : List Arg) (ds : List Bool) : St :=
  match encA X.P.globals.size (cellsA az) with
  | (us, H, n) => startAt X fuel f (packL az us) H n ds

/-- So many times. -/
def itr {α : Type} (f : α → α) : Nat → α → α
  | 0, a => a
  | n + 1, a => f (itr f n a)

/-- A loop that goes round a known number of times. -/
theorem loop_run {X : Cx} {c : Code} (S : Nat → St) (n : Nat) {x : AX} (hx : x ≠ .normal) {s' : St} (h : ∀ k, k < n → Step X c (S k) .normal (S (k + 1))) (ho : Step X c (S n) x s') : LoopTo X c (S 0) x s' :=
  loop_of S (fun k => n - k) (fun k => k ≤ n) hx (fun k hk => if hlt : k < n then .inl ⟨k + 1, hlt, by omega, h k hlt⟩ else by
    obtain rfl : k = n := by omega
    exact .inr ho) 0 (Nat.zero_le _)

end
end Go.Proofs.YtaopinmjgjpiiaaGreatDoor.Ev
