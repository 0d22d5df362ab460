/-
  The evaluator, part C: operations on values.
-/
import Derived.Test.YtaopinmjgjpiiaaGreatDoorEvAB
namespace Go.Proofs.YtaopinmjgjpiiaaGreatDoor.Ev
open Go Go.RowKit
noncomputable section

/-- A reckoning that asks nothing of memory. -/
def pureRun {α : Type} (P : Program) : Sem α → Option α
  | .pure a => some a
  | .program k => pureRun P (k P)
  | _ => none

theorem pureRun_sound {α : Type} {P : Program} {s : Sem α} {a : α} (h : pureRun P s = some a) (w : World) : s.run P w = .ok a w := by
  induction s with
  | pure b => simp only [pureRun] at h; cases h; rfl
  | program k ih => simp only [pureRun] at h; simp only [Sem.run]; exact ih P h
  | _ => simp [pureRun] at h

def pureOnly (x : Option Value) : Option Value :=
  match x with
  | some v => match pureV v with
    | true => some v
    | false => none
  | none => none

theorem pureOnly_sound {P : Program} {s : Sem Value} {v : Value} (h : pureOnly (pureRun P s) = some v) (ρ : Num) (w : World) : s.run P w = .ok (rv ρ v) w := by
  unfold pureOnly at h
  split at h
  · rename_i u hu
    split at h
    · rename_i hp
      cases h
      rw [rv_pure ρ _ hp]
      exact pureRun_sound hu w
    · cases h
  · cases h

/-- Does a block certainly lie under this number? -/
def known (P : Program) (H : Heap) (id : Nat) : Bool :=
  match H.get id with
  | some (.cells _ _) => true
  | some (.ro (_ :: _)) => true
  | some (.row _ _ (.vals (_ :: _)) _) => true
  | some (.row _ _ (.ints _ (_ :: _)) _) => true
  | _ => Nat.blt id P.globals.size

theorem known_sound {P : Program} {B : Nat} {M : Nat → Prop} {ρ : Num} {H : Heap} {w : World} (hS : Sim P B M ρ H w) {id : Nat} (h : known P H id = true) : ∃ b, ρ id = some b := by
  unfold known at h
  split at h
  · rename_i cs t hg
    obtain ⟨b, hb, _⟩ := hS.obj id _ hg
    exact ⟨b, hb⟩
  · rename_i hg
    rcases hS.obj id _ hg with ⟨_, hnil⟩ | ⟨b, cs, ty, fr, hb, _, _⟩
    · cases hnil
    · exact ⟨b, hb⟩
  · rename_i hg
    rcases hS.obj id _ hg with ⟨_, hnil⟩ | ⟨b, _, _, hb, _⟩
    · cases hnil
    · exact ⟨b, hb⟩
  · rename_i hg
    rcases hS.obj id _ hg with ⟨_, hnil⟩ | ⟨b, _, _, hb, _⟩
    · cases hnil
    · exact ⟨b, hb⟩
  · exact ⟨id, hS.glob id (by simpa [Nat.blt_eq] using h)⟩

/-- Sums of places, without a 0 ahead. -/
def addO (a b : Nat) : Nat := match a with
  | 0 => b
  | a + 1 => a + 1 + b
@[simp] theorem addO_eq (a b : Nat) : addO a b = a + b := by cases a <;> simp [addO]
def mulO (a b : Nat) : Nat := match b with
  | 1 => a
  | b => a * b
@[simp] theorem mulO_eq (a b : Nat) : mulO a b = a * b := by unfold mulO; split <;> simp

def evFieldAddr (P : Program) (H : Heap) (s : TypeId) (x : Value) (f : Nat) : Option Value :=
  match x with
  | .pointer (some ⟨id, off, none⟩) =>
    match known P H id with
    | false => none
    | true =>
      match undF P s with
      | some (.struct fs) => match fs[f]? with
        | none => none
        | some fd => match infF P fd.type with
          | none => none
          | some i => match i.size with
            | 0 => none
            | _ + 1 => some (.pointer (some ⟨id, addO off fd.offset, none⟩))
      | _ => none
  | _ => none

theorem evFieldAddr_sound {P : Program} {B : Nat} {M : Nat → Prop} {ρ : Num} {H : Heap} {w : World} (hS : Sim P B M ρ H w) {s : TypeId} {x v : Value} {f : Nat}
    (h : evFieldAddr P H s x f = some v) : (Instr.fieldAt s (rv ρ x) f).run P w = .ok (rv ρ v) w := by
  unfold evFieldAddr at h
  simp only [undF_eq, infF_eq] at h
  split at h
  case h_2 => cases h
  rename_i id off
  split at h
  case h_1 => cases h
  rename_i hk
  obtain ⟨b, hb⟩ := known_sound hS hk
  split at h
  case h_2 => cases h
  rename_i fs hu
  split at h
  case h_1 => cases h
  rename_i fd hf
  split at h
  case h_1 => cases h
  rename_i i hi
  split at h
  case h_1 => cases h
  rename_i n hn
  cases h
  simp only [rv, rAddr, hb, Option.map_some, Instr.fieldAt, Sem.run_bind, run_underlying hu, Result.andThen_ok, hf, Instr.sureAddr, pure_bind, fieldPlace, run_sizeOf' hi, hn]
  simp [addr_add]

def evIndexAddr (P : Program) (auto : Bool) (H : Heap) (t : TypeId) (x ix : Value) : Option (Value × List Prop) :=
  match ix with
  | .int _ i =>
    match undF P t with
    | some (.array len e) =>
      match x with
      | .pointer (some ⟨id, off, none⟩) =>
        match known P H id with
        | false => none
        | true => match infF P e with
          | none => none
          | some inf => match need auto (0 ≤ i ∧ i < len) with
            | none => none
            | some l => some (.pointer (some ⟨id, addO off (mulO i.toNat inf.size), none⟩), l)
      | _ => none
    | some (.slice e) =>
      match x with
      | .slice (some ⟨id, off, none⟩) n _ =>
        match infF P e with
        | none => none
        | some inf =>
          match H.get id with
          | some (.ints _ xs) => match need auto ((0 ≤ i ∧ i < n) ∧ n ≤ xs.length) with
            | none => none
            | some l => some (.pointer (some ⟨id, addO off (mulO i.toNat inf.size), none⟩), l)
          | some (.cells _ _) => match need auto (0 ≤ i ∧ i < n) with
            | none => none
            | some l => some (.pointer (some ⟨id, addO off (mulO i.toNat inf.size), none⟩), l)
          | some (.ro xs) => match need auto ((0 ≤ i ∧ i < n) ∧ 0 < xs.length) with
            | none => none
            | some l => some (.pointer (some ⟨id, addO off (mulO i.toNat inf.size), none⟩), l)
          | _ => none
      | .slice (some ⟨id, off, some _⟩) n _ =>
        match infF P e with
        | none => none
        | some inf =>
          match H.get id with
          | some (.row _ _ (.vals xs) _) => match need auto ((0 ≤ i ∧ i < n) ∧ 0 < xs.length) with
            | none => none
            | some l => some (.pointer (some ⟨id, addO off (mulO i.toNat inf.size), none⟩), l)
          | some (.row _ _ (.ints _ ns) _) => match need auto ((0 ≤ i ∧ i < n) ∧ 0 < ns.length) with
            | none => none
            | some l => some (.pointer (some ⟨id, addO off (mulO i.toNat inf.size), none⟩), l)
          | some (.ro xs) => match need auto ((0 ≤ i ∧ i < n) ∧ 0 < xs.length) with
            | none => none
            | some l => some (.pointer (some ⟨id, addO off (mulO i.toNat inf.size), none⟩), l)
          | some (.ints _ xs) => match need auto ((0 ≤ i ∧ i < n) ∧ 0 < xs.length) with
            | none => none
            | some l => some (.pointer (some ⟨id, addO off (mulO i.toNat inf.size), none⟩), l)
          | some (.fam _ m _ _) => match need auto ((0 ≤ i ∧ i < n) ∧ 0 < m) with
            | none => none
            | some l => some (.pointer (some ⟨id, addO off (mulO i.toNat inf.size), none⟩), l)
          | _ => none
      | _ => none
    | _ => none
  | _ => none

theorem evIndexAddr_sound {P : Program} {auto : Bool} {B : Nat} {M : Nat → Prop} {ρ : Num} {H : Heap} {w : World} (hS : Sim P B M ρ H w) {t : TypeId} {x ix v : Value} {l : List Prop}
    (h : evIndexAddr P auto H t x ix = some (v, l)) (hl : allP l) : (Instr.indexAt t (rv ρ x) (rv ρ ix)).run P w = .ok (rv ρ v) w := by
  unfold evIndexAddr at h
  simp only [undF_eq, infF_eq] at h
  split at h
  case h_2 => cases h
  rename_i k i
  split at h
  · rename_i len e hu
    split at h
    case h_2 => cases h
    rename_i id off
    split at h
    case h_1 => cases h
    rename_i hk
    obtain ⟨b, hb⟩ := known_sound hS hk
    split at h
    case h_1 => cases h
    rename_i inf hi
    split at h
    case h_1 => cases h
    rename_i l' hn
    cases h
    have hr := need_sound hn hl
    simp [rv, rAddr, hb, Instr.indexAt, asIntOf, run_underlying hu, Instr.sureAddr, hr, run_sizeOf' hi, addr_add]
  · rename_i e hu
    split at h
    case h_3 => cases h
    case h_2 =>
      rename_i id off kk n c
      split at h
      case h_1 => cases h
      rename_i inf hi
      have fin : ∀ (b : Nat), ρ id = some b → (0 ≤ i ∧ i < (n : Int)) → (Instr.indexAt t (rv ρ (.slice (some ⟨id, off, some kk⟩) n c)) (rv ρ (.int k i))).run P w = .ok (rv ρ (.pointer (some ⟨id, addO off (mulO i.toNat inf.size), none⟩))) w := by
        intro b hb hr
        simp [rv, rSl, rAddr, hb, Instr.indexAt, asIntOf, run_underlying hu, hr, run_sizeOf' hi, addr_add]
      split at h
      · rename_i e' sz xs k2 hg
        split at h
        case h_1 => cases h
        rename_i l' hn
        cases h
        have hr := need_sound hn hl
        obtain ⟨b, _, _, hb, _⟩ := (hS.obj id _ hg).row_some hr.2
        exact fin b hb hr.1
      · rename_i e' sz k3 ns k2 hg
        split at h
        case h_1 => cases h
        rename_i l' hn
        cases h
        have hr := need_sound hn hl
        obtain ⟨b, _, _, hb, _⟩ := (hS.obj id _ hg).row_some (by simp [Row.list]; exact hr.2)
        exact fin b hb hr.1
      · rename_i xs hg
        split at h
        case h_1 => cases h
        rename_i l' hn
        cases h
        have hr := need_sound hn hl
        rcases hS.obj id _ hg with ⟨_, hnil⟩ | ⟨b, cs, ty, fr, hb, _, _⟩
        · have h2 := hr.2
          subst hnil
          simp only [List.length_nil] at h2
          omega
        · exact fin b hb hr.1
      · rename_i k3 xs hg
        split at h
        case h_1 => cases h
        rename_i l' hn
        cases h
        have hr := need_sound hn hl
        rcases hS.obj id _ hg with ⟨_, hnil⟩ | ⟨b, cs, ty, fr, hb, _, _⟩
        · have h2 := hr.2
          subst hnil
          simp only [List.length_nil] at h2
          omega
        · exact fin b hb hr.1
      · rename_i f m sz o hg
        split at h
        case h_1 => cases h
        rename_i l' hn
        cases h
        have hr := need_sound hn hl
        rcases hS.obj id _ hg with ⟨_, hnil⟩ | ⟨b, cs, ty, fr, hb, _, _⟩
        · have h2 := hr.2
          omega
        · exact fin b hb hr.1
      · cases h
    rename_i id off n c
    split at h
    case h_1 => cases h
    rename_i inf hi
    split at h
    · rename_i k' xs hg
      split at h
      case h_1 => cases h
      rename_i l' hn
      cases h
      have hr := need_sound hn hl
      rcases hS.obj id _ hg with ⟨_, hnil⟩ | ⟨b, cs, ty, fr, hb, _, _⟩
      · subst hnil
        have h2 := hr.2
        simp only [List.length_nil] at h2
        omega
      · simp [rv, rSl, rAddr, hb, Instr.indexAt, asIntOf, run_underlying hu, hr.1, run_sizeOf' hi, addr_add]
    · rename_i cs ty hg
      split at h
      case h_1 => cases h
      rename_i l' hn
      cases h
      have hr := need_sound hn hl
      obtain ⟨b, hb, _⟩ := hS.obj id _ hg
      simp [rv, rSl, rAddr, hb, Instr.indexAt, asIntOf, run_underlying hu, hr, run_sizeOf' hi, addr_add]
    · rename_i xs hg
      split at h
      case h_1 => cases h
      rename_i l' hn
      cases h
      have hr := need_sound hn hl
      rcases hS.obj id _ hg with ⟨_, hnil⟩ | ⟨b, cs, ty, fr, hb, _, _⟩
      · have h2 := hr.2
        subst hnil
        simp only [List.length_nil] at h2
        omega
      · simp [rv, rSl, rAddr, hb, Instr.indexAt, asIntOf, run_underlying hu, hr.1, run_sizeOf' hi, addr_add]
    · cases h
  · cases h

/-- A part of a struct or an array that is a value. -/
def partV (P : Program) (t : TypeId) (cs : List Value) (off : Nat) : Option Value :=
  match undF P t with
  | none => none
  | some d => match aggT d with
    | true => match infF P t with
      | none => none
      | some i => some (.agg ⟨(cs.drop off).take i.size⟩)
    | false => cs[off]?

theorem partV_sound {P : Program} {t : TypeId} {cs : List Value} {off : Nat} {v : Value} (h : partV P t cs off = some v) (ρ : Num) (w : World) :
    (part t (rvA ρ ⟨cs⟩) off).run P w = .ok (rv ρ v) w := by
  unfold partV at h
  simp only [undF_eq, infF_eq] at h
  split at h
  case h_1 => cases h
  rename_i d hd
  split at h
  · rename_i ha
    split at h
    case h_1 => cases h
    rename_i i hi
    cases h
    simp only [part, Sem.run_bind, run_isAgg' hd, ha, Result.andThen_ok, if_true, run_sizeOf' hi, rvA, rvL_eq, rv]
    simp [List.map_take, List.map_drop, List.extract_eq_take_drop]
  · rename_i ha
    simp only [part, Sem.run_bind, run_isAgg' hd, ha, Result.andThen_ok, rvA, rvL_eq]
    simp [h]

def evField (P : Program) (t : TypeId) (x : Value) (f : Nat) : Option Value :=
  match x with
  | .agg ⟨cs⟩ => match undF P t with
    | some (.struct fs) => match fs[f]? with
      | some fd => partV P fd.type cs fd.offset
      | none => none
    | _ => none
  | _ => none

theorem evField_sound {P : Program} {t : TypeId} {x v : Value} {f : Nat} (h : evField P t x f = some v) (ρ : Num) (w : World) : (Instr.field t (rv ρ x) f).run P w = .ok (rv ρ v) w := by
  unfold evField at h
  simp only [undF_eq] at h
  split at h
  case h_2 => cases h
  split at h
  case h_2 => cases h
  rename_i fs hu
  split at h
  case h_2 => cases h
  rename_i fd hf
  simp [Instr.field, run_underlying hu, hf, rv, asAgg, partV_sound h ρ w]

def bytesAt (s : ByteArray) (i : Nat) : Nat := (s.data.toList.getD i 0).toNat

def evIndex (P : Program) (auto : Bool) (t : TypeId) (x ix : Value) : Option (Value × List Prop) :=
  match ix with
  | .int _ i =>
    match undF P t with
    | some .string => match x with
      | .string s => match need auto (0 ≤ i ∧ i.toNat < s.data.toList.length) with
        | some l => some (.int .u8 (bytesAt s i.toNat), l)
        | none => none
      | _ => none
    | some (.array len e) => match x with
      | .agg ⟨cs⟩ => match infF P e with
        | none => none
        | some inf => match need auto (0 ≤ i ∧ i < len) with
          | some l => match partV P e cs (mulO i.toNat inf.size) with
            | some v => some (v, l)
            | none => none
          | none => none
      | _ => none
    | _ => none
  | _ => none

theorem evIndex_sound {P : Program} {auto : Bool} {t : TypeId} {x ix v : Value} {l : List Prop} (h : evIndex P auto t x ix = some (v, l)) (hl : allP l) (ρ : Num) (w : World) :
    (Instr.index t (rv ρ x) (rv ρ ix)).run P w = .ok (rv ρ v) w := by
  unfold evIndex at h
  simp only [undF_eq, infF_eq] at h
  split at h
  case h_2 => cases h
  rename_i k i
  split at h
  · rename_i hu
    split at h
    case h_2 => cases h
    rename_i s
    split at h
    case h_2 => cases h
    rename_i l' hn
    cases h
    obtain ⟨h0, h1⟩ := need_sound hn hl
    have hsz : i.toNat < s.size := h1
    have hb : s[i.toNat]? = some (s[i.toNat]) := ByteArray.getElem?_lt' s _ hsz
    have he : bytesAt s i.toNat = (s[i.toNat]).toNat := by
      unfold bytesAt
      rw [List.getD_eq_getElem?_getD, List.getElem?_eq_getElem h1]
      rfl
    simp only [Instr.index, rv, asIntOf, pure_bind, Sem.run_bind, run_underlying hu, Result.andThen_ok, h0, if_true, hb, he]
    rfl
  · rename_i len e hu
    split at h
    case h_2 => cases h
    rename_i cs
    split at h
    case h_1 => cases h
    rename_i inf hi
    split at h
    case h_2 => cases h
    rename_i l' hn
    split at h
    case h_2 => cases h
    rename_i v' hp
    cases h
    have hr := need_sound hn hl
    rw [mulO_eq] at hp
    simp [Instr.index, rv, asIntOf, run_underlying hu, hr, run_sizeOf' hi, partV_sound hp ρ w]
  · cases h

def evExtract (x : Value) (i : Nat) : Option Value :=
  match x with
  | .tuple ⟨vs⟩ => vs[i]?
  | _ => none

theorem evExtract_sound {P : Program} {x v : Value} {i : Nat} (h : evExtract x i = some v) (ρ : Num) (w : World) : (Instr.extract (rv ρ x) i).run P w = .ok (rv ρ v) w := by
  unfold evExtract at h
  split at h
  case h_2 => cases h
  simp [Instr.extract, rv, rvA, rvL_eq, h]

/-- '==' on values that can be held against each other cell by cell. -/
def evEq (P : Program) : Nat → TypeId → Value → Value → Option Bool
  | 0, _, _, _ => none
  | d + 1, t, x, y =>
    match undF P t with
    | some .bool => match x, y with
      | .bool a, .bool b => some (a == b)
      | _, _ => none
    | some (.int _) => match x, y with
      | .int k a, .int k' b => match decide (k = k') with
        | true => some (a == b)
        | false => none
      | _, _ => none
    | some .string => match x, y with
      | .string a, .string b => some (a.data.toList == b.data.toList)
      | _, _ => none
    | some (.float _) => match x, y with
      | .float k a, .float k' b => match decide (k = k') with
        | true => some (Op.floatEq k a b)
        | false => none
      | _, _ => none
    | some (.struct fs) => match x, y with
      | .agg ⟨xs⟩, .agg ⟨ys⟩ => match P.stoodInHeld t with
        | true => none
        | false => fs.toList.foldr (fun f acc => match acc with
          | none => none
          | some r => match f.name != "_" with
            | false => some r
            | true => match partV P f.type xs f.offset, partV P f.type ys f.offset with
              | some a, some b => match evEq P d f.type a b with
                | some q => some (q && r)
                | none => none
              | _, _ => none) (some true)
      | _, _ => none
    | _ => none

theorem evEq_sound {P : Program} (ρ : Num) (w : World) : ∀ (d : Nat) (t : TypeId) (x y : Value) (r : Bool), evEq P d t x y = some r → ∀ D, d ≤ D → (Op.equalIn D t (rv ρ x) (rv ρ y)).run P w = .ok r w := by
  intro d
  induction d with
  | zero => intro t x y r h; simp [evEq] at h
  | succ d ih =>
    intro t x y r h D hD
    obtain ⟨D, rfl⟩ : ∃ D', D = D' + 1 := ⟨D - 1, by omega⟩
    have hD : d ≤ D := by omega
    unfold evEq at h
    simp only [undF_eq] at h
    split at h
    · rename_i hu
      split at h
      · cases h; simp only [rv]; exact run_equalIn_bool w D t _ _ hu
      · cases h
    · rename_i k0 hu
      split at h
      · split at h
        · rename_i hk; have hk := of_decide_eq_true hk; subst hk; cases h; simp only [rv]; exact run_equalIn_int w D t _ k0 _ _ hu
        · cases h
      · cases h
    · rename_i hu
      split at h
      · cases h; simp only [rv]; rw [run_equalIn_string w D t _ _ hu, ByteArray.toList_eq, ByteArray.toList_eq]
      · cases h
    · rename_i k0 hu
      split at h
      · split at h
        · rename_i hk; have hk := of_decide_eq_true hk; subst hk; cases h; simp only [rv, Op.equalIn, Sem.run_bind, run_underlying hu, Result.andThen_ok, if_true]; rfl
        · cases h
      · cases h
    · rename_i fs hu
      split at h
      · rename_i xs ys
        split at h
        · cases h
        · rename_i hst
          have hf : P.fieldsOf t = fs := by simp [Program.fieldsOf, hu]
          have hu' : P.underlying t = some (.struct (P.fieldsOf t)) := by rw [hf]; exact hu
          simp only [rv]
          rw [run_equalIn_struct w D t _ _ hu' hst, hf]
          clear hu hu' hf
          generalize fs.toList = l at h
          induction l generalizing r with
          | nil => simp only [List.foldr_nil, Option.some.injEq] at h; subst h; simp [Op.eqFields]
          | cons f l ihl =>
            simp only [List.foldr_cons] at h
            split at h
            case h_1 => cases h
            rename_i q hq
            have ihl := ihl q hq
            split at h
            · rename_i hn
              cases h
              have hn' : f.name = "_" := by simpa using hn
              simp [Op.eqFields, hn', ihl]
            · rename_i hn
              have hn' : f.name ≠ "_" := by simpa using hn
              split at h
              case h_2 => cases h
              rename_i a b ha hb
              split at h
              case h_2 => cases h
              rename_i e he
              cases h
              have h1 := partV_sound ha ρ w
              have h2 := partV_sound hb ρ w
              have h3 := ih f.type a b e he D hD
              simp only [Op.eqFields, ne_eq, hn', not_false_eq_true, if_true, Sem.run_bind, h1, h2, h3, Result.andThen_ok]
              cases e <;> simp [ihl]
      · cases h
    · cases h

def constO : Operand → Bool
  | .const _ => true
  | _ => false

def noObs (x : Option Value) : Option (Value × List Prop) :=
  match x with
  | some v => some (v, [])
  | none => none

/-- Operators of two operands. -/
def evBin (P : Program) (auto : Bool) (op : BinOp) (t : TypeId) (xo yo : Operand) (x y : Value) : Option (Value × List Prop) :=
  match x, y with
  | .int k a, .int k' b =>
    match constO yo with
    | true => noObs (pureOnly (pureRun P (binOp op t (.int k a) (.int k' b))))
    | false =>
      match op with
      | .quo => match decide (k = k') with
        | true => match need auto (b ≠ 0) with
          | some l => some (.int k (k.wrap (a.tdiv b)), l)
          | none => none
        | false => none
      | .rem => match decide (k = k') with
        | true => match need auto (b ≠ 0) with
          | some l => some (.int k (a.tmod b), l)
          | none => none
        | false => none
      | .shl => match need auto (0 ≤ b) with
        | some l => some (.int k (k.wrap (a * 2 ^ (min b.toNat k.bits))), l)
        | none => none
      | .shr => match need auto (0 ≤ b) with
        | some l => some (.int k (a.fdiv (2 ^ (min b.toNat k.bits))), l)
        | none => none
      | _ => noObs (pureOnly (pureRun P (binOp op t (.int k a) (.int k' b))))
  | .string a, .string b =>
    match op with
    | .add => match need auto (a.data.toList.length + b.data.toList.length ≤ 9223372036854775807) with
      | some l => some (.string ⟨⟨a.data.toList ++ b.data.toList⟩⟩, l)
      | none => none
    | .eql => some (.bool (a.data.toList == b.data.toList), [])
    | .neq => some (.bool (!(a.data.toList == b.data.toList)), [])
    | .lss => some (.bool (Op.bytesLess a.data.toList b.data.toList), [])
    | .leq => some (.bool (Op.bytesLess a.data.toList b.data.toList || a.data.toList == b.data.toList), [])
    | .gtr => some (.bool (!(Op.bytesLess a.data.toList b.data.toList || a.data.toList == b.data.toList)), [])
    | .geq => some (.bool (!Op.bytesLess a.data.toList b.data.toList), [])
    | _ => none
  | .float k a, .float k' b =>
    match decide (k = k') with
    | false => none
    | true => match op with
      | .add => match need auto ((k.format.add a b).isSome = true) with
        | some l => some (.float k ((k.format.add a b).getD 0), l)
        | none => none
      | .sub => match need auto ((k.format.sub a b).isSome = true) with
        | some l => some (.float k ((k.format.sub a b).getD 0), l)
        | none => none
      | .mul => match need auto ((k.format.mul a b).isSome = true) with
        | some l => some (.float k ((k.format.mul a b).getD 0), l)
        | none => none
      | .quo => match need auto ((k.format.div a b).isSome = true) with
        | some l => some (.float k ((k.format.div a b).getD 0), l)
        | none => none
      | _ => noObs (pureOnly (pureRun P (Op.floatCmp op k a b)))
  | .agg xs, .agg ys =>
    match P.eqGuardType P.depth t with
    | true => none
    | false => match op with
      | .eql => match evEq P 20 t (.agg xs) (.agg ys) with
        | some b => some (.bool b, [])
        | none => none
      | .neq => match evEq P 20 t (.agg xs) (.agg ys) with
        | some b => some (.bool (!b), [])
        | none => none
      | _ => none
  | .bool a, .bool b =>
    match op with
    | .eql => match evEq P 20 t (.bool a) (.bool b) with
      | some b => some (.bool b, [])
      | none => none
    | .neq => match evEq P 20 t (.bool a) (.bool b) with
      | some b => some (.bool (!b), [])
      | none => none
    | _ => none
  | .func _ _ _, .nilFunc =>
    match undF P t with
    | some (.func _ _ _) => match op with
      | .eql => some (.bool false, [])
      | .neq => some (.bool true, [])
      | _ => none
    | _ => none
  | x, y =>
    match pureV x && pureV y with
    | true => noObs (pureOnly (pureRun P (do eqGuard op t xo yo x y; binOp op t x y)))
    | false => none

theorem noObs_sound {P : Program} {s : Sem Value} {v : Value} {l : List Prop} (h : noObs (pureOnly (pureRun P s)) = some (v, l)) (ρ : Num) (w : World) : s.run P w = .ok (rv ρ v) w := by
  unfold noObs at h
  split at h
  · rename_i u hu; cases h; exact pureOnly_sound hu ρ w
  · cases h

theorem run_eqGuard_plain {P : Program} {w : World} {op : BinOp} {t : TypeId} {xo yo : Operand} {x y : Value} (h1 : ¬ (x = .nilIface ∧ y = .nilIface)) (h2 : ¬ ((∃ a, x = .agg a) ∧ ∃ b, y = .agg b)) :
    (eqGuard op t xo yo x y).run P w = .ok () w := by
  unfold eqGuard
  split
  all_goals first
    | (simp only [Bool.not_true, Bool.false_eq_true, if_false]
       split
       · exact absurd ⟨rfl, rfl⟩ h1
       · exact absurd ⟨⟨_, rfl⟩, _, rfl⟩ h2
       · rfl)
    | rfl

theorem run_equalIn_funcnil {P : Program} {w : World} (D : Nat) {t : TypeId} {fn : Fn} {f c : Array Value} {ps rs : Array TypeId} {v : Bool} (h : P.underlying t = some (.func ps rs v)) :
    (Op.equalIn (D + 1) t (.func fn f c) .nilFunc).run P w = .ok false w := by
  simp only [Op.equalIn, Sem.run_bind, run_underlying h, Result.andThen_ok]
  rfl

set_option maxHeartbeats 1000000 in
theorem evBin_sound {P : Program} {auto : Bool} {op : BinOp} {t : TypeId} {xo yo : Operand} {x y v : Value} {l : List Prop} (h : evBin P auto op t xo yo x y = some (v, l)) (hl : allP l) (ρ : Num) (w : World) :
    (do eqGuard op t xo yo (rv ρ x) (rv ρ y); binOp op t (rv ρ x) (rv ρ y) : Sem Value).run P w = .ok (rv ρ v) w := by
  unfold evBin at h
  simp only [undF_eq] at h
  split at h
  · -- ints
    rename_i k a k' b
    simp only [rv, Sem.run_bind]
    rw [run_eqGuard_plain (by simp) (by simp)]
    simp only [Result.andThen_ok]
    split at h
    · exact noObs_sound h ρ w
    · split at h
      · split at h
        · rename_i hk; have hk := of_decide_eq_true hk; subst hk
          split at h
          · rename_i l' hn; cases h
            have hb := need_sound hn hl
            simp [binOp, Op.intDiv, hb, rv]
          · cases h
        · cases h
      · split at h
        · rename_i hk; have hk := of_decide_eq_true hk; subst hk
          split at h
          · rename_i l' hn; cases h
            have hb := need_sound hn hl
            simp [binOp, Op.intDiv, hb, rv]
          · cases h
        · cases h
      · split at h
        · rename_i l' hn; cases h
          have hb := need_sound hn hl
          have : ¬ b < 0 := by omega
          simp [binOp, Op.shift, this, rv]
        · cases h
      · split at h
        · rename_i l' hn; cases h
          have hb := need_sound hn hl
          have : ¬ b < 0 := by omega
          simp [binOp, Op.shift, this, rv]
        · cases h
      · exact noObs_sound h ρ w
  · -- strings
    rename_i a b
    simp only [rv, Sem.run_bind]
    rw [run_eqGuard_plain (by simp) (by simp)]
    simp only [Result.andThen_ok]
    have ea := ByteArray.toList_eq a
    have eb := ByteArray.toList_eq b
    split at h
    · split at h
      · rename_i l' hn; cases h
        have hb := need_sound hn hl
        have hsz : ¬ (((a.size + b.size : Nat) : Int) > IntKind.i64.max) := by
          have h1 : a.size = a.data.toList.length := rfl
          have h2 : b.size = b.data.toList.length := rfl
          have h3 : IntKind.i64.max = 9223372036854775807 := by decide
          rw [h3, h1, h2]
          omega
        have happ : a ++ b = (⟨⟨a.data.toList ++ b.data.toList⟩⟩ : ByteArray) := by
          apply ByteArray.ext
          simp
        simp only [binOp, Op.stringOp, hsz, if_false, rv, happ]
        rfl
      · cases h
    all_goals first
      | (cases h; simp [binOp, Op.stringOp, ea, eb, rv]; done)
      | cases h
  · -- floats
    rename_i k a k' b
    simp only [rv, Sem.run_bind]
    rw [run_eqGuard_plain (by simp) (by simp)]
    simp only [Result.andThen_ok]
    split at h
    · cases h
    · rename_i hk; have hk := of_decide_eq_true hk; subst hk
      have key : ∀ (o : Option Nat), o.isSome = true → (match o with | some r => (pure (Value.float k r) : Sem Value) | none => do pure (.float k (← choose (.nanBits k a b)))).run P w = .ok (.float k (o.getD 0)) w := by
        intro o ho
        cases o with
        | none => simp at ho
        | some r => rfl
      split at h
      · split at h
        · rename_i l' hn; cases h
          have hb := need_sound hn hl
          have := key _ hb
          simp only [binOp, Op.floatArith, rv, pure_bind, ne_eq, not_true_eq_false, if_false]
          exact this
        · cases h
      · split at h
        · rename_i l' hn; cases h
          have hb := need_sound hn hl
          have := key _ hb
          simp only [binOp, Op.floatArith, rv, pure_bind, ne_eq, not_true_eq_false, if_false]
          exact this
        · cases h
      · split at h
        · rename_i l' hn; cases h
          have hb := need_sound hn hl
          have := key _ hb
          simp only [binOp, Op.floatArith, rv, pure_bind, ne_eq, not_true_eq_false, if_false]
          exact this
        · cases h
      · split at h
        · rename_i l' hn; cases h
          have hb := need_sound hn hl
          have := key _ hb
          simp only [binOp, Op.floatArith, rv, pure_bind, ne_eq, not_true_eq_false, if_false]
          exact this
        · cases h
      · rename_i hop1 hop2 hop3 hop4
        have hx := noObs_sound h ρ w
        have hb : binOp op t (.float k a) (.float k b) = Op.floatCmp op k a b := by
          cases op <;> first | (exfalso; first | exact hop1 rfl | exact hop2 rfl | exact hop3 rfl | exact hop4 rfl) | simp [binOp]
        rw [hb]
        exact hx
  · -- structs
    rename_i xs ys
    split at h
    · cases h
    · rename_i hg
      simp only [rv, Sem.run_bind]
      rw [run_eqGuard_agg w op t xo yo _ _ hg]
      simp only [Result.andThen_ok]
      split at h
      · split at h
        · rename_i b hb; cases h
          have := evEq_sound ρ w 20 t _ _ b hb 10000 (by decide)
          simp only [rv] at this
          rw [run_eql_struct, this]; rfl
        · cases h
      · split at h
        · rename_i b hb; cases h
          have := evEq_sound ρ w 20 t _ _ b hb 10000 (by decide)
          simp only [rv] at this
          rw [run_neq_struct, this]; rfl
        · cases h
      · cases h
  · -- bools
    rename_i a b
    simp only [rv, Sem.run_bind]
    rw [run_eqGuard_plain (by simp) (by simp)]
    simp only [Result.andThen_ok]
    split at h
    · split at h
      · rename_i r hb; cases h
        have := evEq_sound ρ w 20 t _ _ r hb 10000 (by decide)
        simp only [rv] at this
        simp only [binOp, Sem.run_bind, Op.equal, Op.maxDepth, this, Result.andThen_ok, rv]
        rfl
      · cases h
    · split at h
      · rename_i r hb; cases h
        have := evEq_sound ρ w 20 t _ _ r hb 10000 (by decide)
        simp only [rv] at this
        simp only [binOp, Sem.run_bind, Op.equal, Op.maxDepth, this, Result.andThen_ok, rv]
        rfl
      · cases h
    · cases h
  · -- a function against nil
    simp only [rv, Sem.run_bind]
    rw [run_eqGuard_plain (by simp) (by simp)]
    simp only [Result.andThen_ok]
    split at h
    · rename_i hu
      split at h
      · cases h
        simp only [binOp, Sem.run_bind, Op.equal, Op.maxDepth, run_equalIn_funcnil 9999 hu, Result.andThen_ok, rv]
        rfl
      · cases h
        simp only [binOp, Sem.run_bind, Op.equal, Op.maxDepth, run_equalIn_funcnil 9999 hu, Result.andThen_ok, rv]
        rfl
      · cases h
    · cases h
  · split at h
    · rename_i hp
      simp only [Bool.and_eq_true] at hp
      rw [rv_pure ρ _ hp.1, rv_pure ρ _ hp.2]
      exact noObs_sound h ρ w
    · cases h

end
end Go.Proofs.YtaopinmjgjpiiaaGreatDoor.Ev
