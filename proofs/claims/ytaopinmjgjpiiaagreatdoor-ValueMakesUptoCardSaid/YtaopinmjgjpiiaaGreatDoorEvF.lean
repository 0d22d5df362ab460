/-
  The evaluator, part F: guards, calls, one operation as a whole.
-/
import Derived.Test.YtaopinmjgjpiiaaGreatDoorEvEc
namespace Go.Proofs.YtaopinmjgjpiiaaGreatDoor.Ev
open Go Go.RowKit Go.Shelf
noncomputable section

abbrev KV := List (Nat × Bool)

def kvGet : KV → Nat → Bool
  | [], _ => false
  | (j, _) :: r, i => Nat.beq j i || kvGet r i

def KVok (kv : KV) (β : Nat → Bool) : Prop := ∀ p ∈ kv, β p.1 = p.2

theorem KVok.cons {j : Nat} {b : Bool} {kv : KV} {β : Nat → Bool} (h : KVok ((j, b) :: kv) β) : β j = b ∧ KVok kv β :=
  ⟨h (j, b) (by simp), fun p hp => h p (by simp [hp])⟩

def dstOf (os : List Oper) (j : Nat) : Option Nat := match os[j]? with
  | some o => o.dst
  | none => none

/-- Is the operation wanted? (skipped, temporaries, keys, the tests that it hangs on) -/
def evGuard (auto : Bool) (os : List Oper) (o : Oper) (tmps : List TV) (kv : KV) : Option (Bool × List TV × KV × List (Nat × Bool)) :=
  match o.guard with
  | none => some (false, tmps, kv, [])
  | some (j, want) =>
    match dstOf os j with
    | none => none
    | some d =>
      match getT tmps d with
      | .v x => match auto with
        | true => match x with
          | .bool b => match beqB b want with
            | true => some (false, tmps, kv, [])
            | false => some (true, tmps, kv, [])
          | .tuple _ => some (true, tmps, kv, [])
          | _ => none
        | false => match x with
          | .bool b => match kvGet kv j with
            | false => some (false, setF tmps d (.key j [] b), (j, b) :: kv, [(j, want)])
            | true => none
          | _ => none
      | .sp l x => match x with
        | .bool b => match kvGet kv j with
          | false => some (false, setF tmps d (.key j l b), (j, b) :: kv, (j, want) :: l)
          | true => none
        | _ => none
      | .key j' l _ => match Nat.beq j' j with
        | true => some (false, tmps, kv, (j, want) :: l)
        | false => none
      | .unk => none

theorem dstOf_eq (os : List Oper) (j : Nat) : ((⟨os⟩ : Array Oper)[j]?).bind (·.dst) = dstOf os j := by
  unfold dstOf
  simp only [List.getElem?_toArray]
  cases os[j]? <;> rfl

theorem yielded_eq {os : List Oper} {tmps : Array Value} {j d : Nat} (h : dstOf os j = some d) : yielded ⟨os⟩ tmps j = (match tmps.getD d undef with | .bool b => some b | _ => none) := by
  unfold yielded
  rw [dstOf_eq, h]
  simp only [Option.bind_some]
  rw [Array.getD_eq_getD_getElem?]
  cases tmps[d]? with
  | none => rfl
  | some v => cases v <;> rfl

theorem V_nil (β : Nat → Bool) : V β [] := fun _ h => by cases h
theorem V_cons {β : Nat → Bool} {p : Nat × Bool} {l : List (Nat × Bool)} : V β (p :: l) ↔ β p.1 = p.2 ∧ V β l :=
  ⟨fun h => ⟨h p (by simp), fun q hq => h q (by simp [hq])⟩, fun ⟨h1, h2⟩ q hq => by
    rcases List.mem_cons.1 hq with rfl | hq
    · exact h1
    · exact h2 q hq⟩

def looks (os : List Oper) (o : Oper) : List Nat := o.looksAt ⟨os⟩

theorem guard_looks {os : List Oper} {o : Oper} {j d : Nat} {want : Bool} (hg : o.guard = some (j, want)) (hd : dstOf os j = some d) : d ∈ looks os o := by
  unfold looks Oper.looksAt
  rw [hg]
  simp only [dstOf_eq, hd]
  simp

theorem getT_set (ts : List TV) (d t : Nat) (x : TV) (hd : d < ts.length) : getT (ts.set d x) t = if d = t then x else getT ts t := by
  simp only [getT_def]
  by_cases h : d = t
  · subst h; simp [hd]
  · simp [h]

/-- What a guard comes to, in one reading of numbers and keys. -/
theorem evGuard_sound {auto : Bool} {os : List Oper} {o : Oper} {tmps tmps' : List TV} {kv kv' : KV} {sk : Bool} {conds : List (Nat × Bool)} (h : evGuard auto os o tmps kv = some (sk, tmps', kv', conds))
    {ρ : Num} {β : Nat → Bool} (hk : KVok kv' β) {a : Array Value} (hT : ∀ t ∈ looks os o, KVok kv β → TRel ρ β (getT tmps t) (a.getD t undef)) :
    KVok kv β ∧ (sk = true → Region.wanted o (yielded ⟨os⟩ a) = false) ∧ (sk = false → (Region.wanted o (yielded ⟨os⟩ a) = true ↔ V β conds)) ∧
    (∀ t r, TRel ρ β (getT tmps t) r ↔ TRel ρ β (getT tmps' t) r) := by
  unfold evGuard at h
  simp only [setF_eq] at h
  split at h
  · rename_i hg
    cases h
    exact ⟨hk, (fun h => by cases h), fun _ => ⟨fun _ => V_nil β, fun _ => by simp [Region.wanted, hg]⟩, fun _ _ => Iff.rfl⟩
  · rename_i j want hg
    split at h
    case h_1 => cases h
    rename_i d hd
    have hmem := guard_looks hg hd
    have hw : Region.wanted o (yielded ⟨os⟩ a) = ((match a.getD d undef with | .bool b => some b | _ => none) == some want) := by
      unfold Region.wanted
      rw [hg]
      simp only []
      rw [yielded_eq hd]
    split at h
    · rename_i x hx
      have hdx : KVok kv β → a.getD d undef = rv ρ x := fun hkv => by
        have := hT d hmem hkv; rw [hx] at this; exact this
      split at h
      · split at h
        · rename_i b
          split at h
          · rename_i hb
            cases h
            have e := hdx hk
            simp only [rv] at e
            refine ⟨hk, (fun h => by cases h), fun _ => ⟨fun _ => V_nil β, fun _ => ?_⟩, fun _ _ => Iff.rfl⟩
            rw [hw, e, beqB_eq hb]; simp
          · rename_i hb
            cases h
            have e := hdx hk
            simp only [rv] at e
            refine ⟨hk, fun _ => ?_, (fun h => by cases h), fun _ _ => Iff.rfl⟩
            rw [hw, e]
            revert hb
            cases b <;> cases want <;> simp [beqB]
        · rename_i y
          cases h
          have e := hdx hk
          simp only [rv] at e
          refine ⟨hk, fun _ => ?_, (fun h => by cases h), fun _ _ => Iff.rfl⟩
          rw [hw, e]; rfl
        · cases h
      · split at h
        · rename_i b
          split at h
          case h_2 => cases h
          cases h
          obtain ⟨hj, hkv⟩ := hk.cons
          have e := hdx hkv
          simp only [rv] at e
          refine ⟨hkv, (fun h => by cases h), fun _ => ?_, fun t r => ?_⟩
          · rw [hw, e, V_cons]
            simp only [hj]
            constructor
            · intro hh; exact ⟨by simpa using hh, V_nil β⟩
            · intro hh; simpa using hh.1
          · by_cases hdt : d = t
            · subst hdt
              by_cases hlen : d < tmps.length
              · rw [getT_set _ _ _ _ hlen, if_pos rfl, hx]
                constructor
                · intro ht; exact ⟨hj, fun _ => by simpa [TRel, rv] using ht, fun hn => absurd (V_nil β) hn⟩
                · intro ht; have := ht.2.1 (V_nil β); simpa [TRel, rv] using this
              · rw [List.set_eq_of_length_le (by omega)]
            · by_cases hlen : d < tmps.length
              · rw [getT_set _ _ _ _ hlen, if_neg hdt]
              · rw [List.set_eq_of_length_le (by omega)]
        · cases h
    · rename_i l x hx
      split at h
      case h_2 => cases h
      rename_i b
      split at h
      case h_2 => cases h
      cases h
      obtain ⟨hj, hkv⟩ := hk.cons
      have e := hT d hmem hkv
      rw [hx] at e
      simp only [TRel, rv] at e
      refine ⟨hkv, (fun h => by cases h), fun _ => ?_, fun t r => ?_⟩
      · rw [hw, V_cons]
        simp only [hj]
        by_cases hV : V β l
        · rw [e.1 hV]
          constructor
          · intro hh; exact ⟨by simpa using hh, hV⟩
          · intro hh; simpa using hh.1
        · rw [e.2 hV]
          constructor
          · intro hh; simp [undef] at hh
          · intro hh; exact absurd hh.2 hV
      · by_cases hdt : d = t
        · subst hdt
          by_cases hlen : d < tmps.length
          · rw [getT_set _ _ _ _ hlen, if_pos rfl, hx]
            simp only [TRel, rv]
            constructor
            · intro ht; exact ⟨hj, ht.1, ht.2⟩
            · intro ht; exact ⟨ht.2.1, ht.2.2⟩
          · rw [List.set_eq_of_length_le (by omega)]
        · by_cases hlen : d < tmps.length
          · rw [getT_set _ _ _ _ hlen, if_neg hdt]
          · rw [List.set_eq_of_length_le (by omega)]
    · rename_i j' l b hx
      split at h
      case h_2 => cases h
      rename_i hjj
      cases h
      have hjj := Nat.eq_of_beq_eq_true hjj
      subst hjj
      have e := hT d hmem hk
      rw [hx] at e
      obtain ⟨e0, e1, e2⟩ := e
      refine ⟨hk, (fun h => by cases h), fun _ => ?_, fun _ _ => Iff.rfl⟩
      rw [hw, V_cons]
      simp only [e0]
      by_cases hV : V β l
      · rw [e1 hV]
        constructor
        · intro hh; exact ⟨by simpa using hh, hV⟩
        · intro hh; simpa using hh.1
      · rw [e2 hV]
        constructor
        · intro hh; simp [undef] at hh
        · intro hh; exact absurd hh.2 hV
    · cases h

def isBoolV (x : Option Value) : Option Bool := match x with
  | some (.bool b) => some b
  | _ => none

def evPick (auto : Bool) (tmps : List TV) (g : List (Nat × Bool)) (c x y : Operand) : Option Value :=
  match c with
  | .tmp t =>
    match getT tmps t with
    | .key j l bc => match subC l g with
      | false => none
      | true => match isBoolV (evo tmps ((j, true) :: g) x), isBoolV (evo tmps ((j, false) :: g) y) with
        | some p, some q => some (.bool (match bc with | true => p | false => q))
        | _, _ => none
    | .v z => match z with
      | .bool bc => match auto with
        | true => match bc with
          | true => evo tmps g x
          | false => evo tmps g y
        | false => match isBoolV (evo tmps g x), isBoolV (evo tmps g y) with
          | some p, some q => some (.bool (match bc with | true => p | false => q))
          | _, _ => none
      | _ => none
    | .sp l z => match z with
      | .bool bc => match subC l g with
        | false => none
        | true => match isBoolV (evo tmps g x), isBoolV (evo tmps g y) with
          | some p, some q => some (.bool (match bc with | true => p | false => q))
          | _, _ => none
      | _ => none
    | .unk => none
  | _ => none

theorem evo_sound {ρ : Num} {β : Nat → Bool} {tmps : List TV} {c : List (Nat × Bool)} {a : Act} {P : Program} {B : Nat} {M : Nat → Prop} {H : Heap} {w : World} (hS : Sim P B M ρ H w) (hc : V β c) {x : Operand} {y : Value} (h : evo tmps c x = some y)
    (hT : ∀ t, x = .tmp t → TRel ρ β (getT tmps t) (a.tmps.getD t undef)) (hg : ∀ g, x = .global g → g < P.globals.size) : a.eval x = rv ρ y := by
  cases x with
  | tmp t => exact rd_sound h hc (hT t rfl)
  | const v =>
    simp only [evo] at h
    split at h
    · rename_i hp; cases h; exact (rv_pure ρ _ hp).symm
    · cases h
  | global g =>
    simp only [evo] at h
    cases h
    simp [Act.eval, rv, rAddr, hS.glob g (hg g rfl)]
  | func f => simp only [evo] at h; cases h; simp [Act.eval, rv, rvA, rvL, rFn]

theorem isBoolV_some {x : Option Value} {b : Bool} (h : isBoolV x = some b) : x = some (.bool b) := by
  unfold isBoolV at h
  split at h
  · cases h; rfl
  · cases h

def noGlob : Operand → Bool
  | .global _ => false
  | _ => true

theorem evPick_sound {P : Program} {B : Nat} {M : Nat → Prop} {H : Heap} {auto : Bool} {ρ : Num} {β : Nat → Bool} {tmps : List TV} {g : List (Nat × Bool)} {a : Act} {w : World} (hS : Sim P B M ρ H w) (hc : V β g) {c x y : Operand} {v : Value}
    (h : evPick auto tmps g c x y = some v) (hT : ∀ t, (c = .tmp t ∨ x = .tmp t ∨ y = .tmp t) → TRel ρ β (getT tmps t) (a.tmps.getD t undef)) (hx : noGlob x = true) (hy : noGlob y = true) :
    ((do pure (.value (if ← asBool (a.eval c) then a.eval x else a.eval y)) : Sem Next)).run P w = .ok (.value (rv ρ v)) w := by
  have hgx : ∀ g, x = .global g → g < P.globals.size := fun g e => by subst e; cases hx
  have hgy : ∀ g, y = .global g → g < P.globals.size := fun g e => by subst e; cases hy
  have ex : ∀ {G : List (Nat × Bool)} {z : Value}, V β G → evo tmps G x = some z → a.eval x = rv ρ z := fun hG he => evo_sound hS hG he (fun t e => hT t (.inr (.inl e))) hgx
  have ey : ∀ {G : List (Nat × Bool)} {z : Value}, V β G → evo tmps G y = some z → a.eval y = rv ρ z := fun hG he => evo_sound hS hG he (fun t e => hT t (.inr (.inr e))) hgy
  have fin : ∀ b : Bool, a.eval c = .bool b → (if b then a.eval x else a.eval y) = rv ρ v → ((do pure (.value (if ← asBool (a.eval c) then a.eval x else a.eval y)) : Sem Next)).run P w = .ok (.value (rv ρ v)) w := by
    intro b hb hv
    rw [hb, ← hv]
    rfl
  unfold evPick at h
  split at h
  case h_2 => cases h
  rename_i t
  have hTc := hT t (.inl rfl)
  split at h
  · rename_i j l bc hx'
    rw [hx'] at hTc
    obtain ⟨h0, h1, h2⟩ := hTc
    split at h
    case h_1 => cases h
    rename_i hs
    have hcb : a.eval (.tmp t) = .bool bc := h1 (subC_sound hs hc)
    split at h
    case h_2 => cases h
    rename_i p q hp hq
    cases h
    refine fin bc hcb ?_
    cases bc
    · have := ey (G := (j, false) :: g) (V_cons.2 ⟨h0, hc⟩) (isBoolV_some hq)
      simp [this]
    · have := ex (G := (j, true) :: g) (V_cons.2 ⟨h0, hc⟩) (isBoolV_some hp)
      simp [this]
  · rename_i z hx'
    rw [hx'] at hTc
    split at h
    case h_2 => cases h
    rename_i bc
    have hcb : a.eval (.tmp t) = .bool bc := by
      simp only [TRel, rv] at hTc
      exact hTc
    split at h
    · split at h
      · exact fin true hcb (by simpa using ex hc h)
      · exact fin false hcb (by simpa using ey hc h)
    · split at h
      case h_2 => cases h
      rename_i p q hp hq
      cases h
      refine fin bc hcb ?_
      cases bc
      · have := ey hc (isBoolV_some hq)
        simp [this]
      · have := ex hc (isBoolV_some hp)
        simp [this]
  · rename_i l z hx'
    rw [hx'] at hTc
    split at h
    case h_2 => cases h
    rename_i bc
    split at h
    case h_1 => cases h
    rename_i hs
    have hcb : a.eval (.tmp t) = .bool bc := by
      have := hTc.1 (subC_sound hs hc)
      simp only [rv] at this
      exact this
    split at h
    case h_2 => cases h
    rename_i p q hp hq
    cases h
    refine fin bc hcb ?_
    cases bc
    · have := ey hc (isBoolV_some hq)
      simp [this]
    · have := ex hc (isBoolV_some hp)
      simp [this]
  · cases h

/-- The globals that an operation names are the program's. -/
def globsOk (P : Program) (o : Oper) : Bool := o.op.operands.toList.all fun x => match x with
  | .global g => Nat.blt g P.globals.size
  | _ => true

/-! A call of yield. -/

def setPs : List (Option Value) → List Nat → List Value → List (Option Value)
  | ts, p :: ps, v :: vs => setPs (ts.set p (some v)) ps vs
  | ts, _, _ => ts

def ofOpt : Option Value → TV
  | some x => .v x
  | none => .unk

def jumpOf : AX → Option Code
  | .normal => none
  | .ret => some .ret
  | .exit id => some (.exit id)

def goesOn : AX → Bool
  | .normal => true
  | .ret => false
  | .exit _ => false

def stateOf : AX → LoopState
  | .normal => .ready
  | .ret => .done
  | .exit _ => .done

def evYield (X : Cx) (l : Nat) (args : List Value) (H : Heap) (n : Nat) (ds : List Bool) : Option CR :=
  match H.get l with
  | some (.loop _ _ ts ps asg bd) => match Nat.beq args.length ps.length with
    | false => none
    | true => match X.rd asg ⟨(setPs ts ps args).map ofOpt, H, n, ds, [], 0, some l, [], n⟩ with
      | some (.normal, ⟨tm1, h1, n1, d1, o1, lp1, rd1, mk1, b1⟩) => match h1.get l with
        | some (.loop .ready pn ts1 ps1 as1 bd1) =>
          match X.rd bd ⟨tm1, h1.set l (.loop .busy pn ts1 ps1 as1 bd1), n1, d1, o1, lp1, rd1, mk1, b1⟩ with
          | some (x, ⟨_, h2, n2, d2, o2, _, _, _, _⟩) => match h2.get l with
            | some (.loop _ _ ts2 ps2 as2 bd2) => match Nat.ble n n2 with
              | true => some ⟨.bool (goesOn x), h2.set l (.loop (stateOf x) (jumpOf x) ts2 ps2 as2 bd2), n2, o2, d2⟩
              | false => none
            | _ => none
          | none => none
        | _ => none
      | _ => none
  | _ => none

theorem evYield_eq (X : Cx) (l : Nat) (args : List Value) (H : Heap) (n : Nat) (ds : List Bool) : evYield X l args H n ds =
    match H.get l with
    | some (.loop _ _ ts ps asg bd) => match Nat.beq args.length ps.length with
      | false => none
      | true => match X.rd asg ⟨(setPs ts ps args).map ofOpt, H, n, ds, [], 0, some l, [], n⟩ with
        | some (.normal, s1) => match s1.heap.get l with
          | some (.loop .ready pn ts1 ps1 as1 bd1) =>
            match X.rd bd ⟨s1.tmps, s1.heap.set l (.loop .busy pn ts1 ps1 as1 bd1), s1.nid, s1.ds, s1.obs, s1.lp, s1.rd, s1.mks, s1.bs⟩ with
            | some (x, s2) => match s2.heap.get l with
              | some (.loop _ _ ts2 ps2 as2 bd2) => match Nat.ble n s2.nid with
                | true => some ⟨.bool (goesOn x), s2.heap.set l (.loop (stateOf x) (jumpOf x) ts2 ps2 as2 bd2), s2.nid, s2.obs, s2.ds⟩
                | false => none
              | _ => none
            | none => none
          | _ => none
        | _ => none
    | _ => none := by
  unfold evYield
  cases H.get l with
  | none => rfl
  | some ob =>
    cases ob with
    | loop st pn ts ps asg bd =>
      dsimp only
      cases Nat.beq args.length ps.length with
      | false => rfl
      | true =>
        dsimp only
        generalize X.rd asg _ = z
        cases z with
        | none => rfl
        | some p =>
          obtain ⟨x, s1⟩ := p
          cases x with
          | normal =>
            cases s1 with
            | mk tm1 h1 n1 d1 o1 lp1 rd1 mk1 b1 =>
              dsimp only
              cases h1.get l with
              | none => rfl
              | some ob1 =>
                cases ob1 with
                | loop st1 pn1 ts1 ps1 as1 bd1 =>
                  cases st1 with
                  | ready =>
                    dsimp only
                    generalize X.rd bd _ = z2
                    cases z2 with
                    | none => rfl
                    | some p2 => rfl
                  | _ => rfl
                | _ => rfl
          | _ => rfl
    | _ => rfl

theorem get_ofOpt (ts : List (Option Value)) (t : Nat) : getT (ts.map ofOpt) t = match ts[t]? with
    | some (some x) => .v x
    | _ => .unk := by
  simp only [getT_def]
  rw [List.getElem?_map]
  cases h : ts[t]? with
  | none => rfl
  | some o => cases o <;> rfl

theorem setPs_spec (ρ : Num) : ∀ (ps : List Nat) (vs : List Value) (ts : List (Option Value)) (a : Array Value), a.size = ts.length → (∀ t x, ts[t]? = some (some x) → a.getD t undef = rv ρ x) →
    (((ps.zip (rvL ρ vs)).foldl (fun (tmps : Array Value) (p : Nat × Value) => tmps.setIfInBounds p.1 p.2) a).size = (setPs ts ps vs).length ∧
      ∀ t x, (setPs ts ps vs)[t]? = some (some x) → ((ps.zip (rvL ρ vs)).foldl (fun (tmps : Array Value) (p : Nat × Value) => tmps.setIfInBounds p.1 p.2) a).getD t undef = rv ρ x)
  | [], vs, ts, a, hsz, h => by simp only [setPs, List.zip_nil_left, List.foldl_nil]; exact ⟨hsz, h⟩
  | p :: ps, [], ts, a, hsz, h => by simp only [setPs, rvL, List.zip_nil_right, List.foldl_nil]; exact ⟨hsz, h⟩
  | p :: ps, v :: vs, ts, a, hsz, h => by
    simp only [rvL, List.zip_cons_cons, List.foldl_cons, setPs]
    refine setPs_spec ρ ps vs (ts.set p (some v)) (a.setIfInBounds p (rv ρ v)) (by simpa using hsz) (fun t x hx => ?_)
    by_cases hpt : p = t
    · subst hpt
      rw [List.getElem?_set] at hx
      simp only [if_true] at hx
      split at hx
      · rename_i hlt
        simp only [Option.some.injEq] at hx
        subst hx
        simp [hsz, hlt]
      · cases hx
    · rw [List.getElem?_set_ne hpt] at hx
      have := h t x hx
      rw [Array.getD_eq_getD_getElem?] at this ⊢
      rw [Array.getElem?_setIfInBounds_ne hpt]
      exact this

theorem Rep.known {P : Program} {J : Inv P} {B : Nat} {M : Nat → Prop} {w0 : Bas} {rb : Option Nat} {s : St} {a : Act} {w : World} (h : Rep P J B M w0 rb s a w) {l : Nat} {o : AObj} (hl : s.heap.get l = some o) : l < s.nid ∨ (∃ xs k, o = .ints k xs) ∨ (∃ xs, o = .ro xs) ∨ (∃ f m sz b, o = .fam f m sz b) ∨ ∃ e sz r k, o = .row e sz r k := by
  obtain ⟨ρ, _, hρ⟩ := h.rep
  rcases Nat.lt_or_ge l s.nid with h1 | h1
  · exact .inl h1
  · have := (hρ (fun i => if i = l then none else ρ i) (fun i hi => by simp [show i ≠ l by omega])).1.obj l o hl
    simp only [if_true] at this
    cases o with
    | row e sz r k => exact .inr (.inr (.inr (.inr ⟨e, sz, r, k, rfl⟩)))
    | fam f m sz b => exact .inr (.inr (.inr (.inl ⟨f, m, sz, b, rfl⟩)))
    | ro xs => exact .inr (.inr (.inl ⟨xs, rfl⟩))
    | ints k xs => exact .inr (.inl ⟨xs, k, rfl⟩)
    | cells cs t => obtain ⟨b, h, _⟩ := this; cases h
    | iter s p => obtain ⟨b, h, _⟩ := this; cases h
    | loop st pn ts ps asg bd => obtain ⟨b, r, h, _⟩ := this; cases h
    | defr => obtain ⟨b, h, _⟩ := this; cases h
    | dead => obtain ⟨b, r, h, _⟩ := this; cases h
    | map es => obtain ⟨b, mes, ck, h, _⟩ := this; cases h

/-- The record of a loop, and what comes of turning it. -/
theorem Rep.loop' {P : Program} {J : Inv P} {B : Nat} {M : Nat → Prop} (hp : Par P B M) {w0 : Bas} {rb : Option Nat} {s : St} {a : Act} {w : World} (h : Rep P J B M w0 rb s a w) {ρ : Num} (hρ0 : w0.n ≤ s.nid ∧ Agree w0.n w0.ρ ρ) (hρ : ∀ ρ', Agree s.nid ρ ρ' → Sim P B M ρ' s.heap w ∧ FR ρ' rb s a ∧ ∀ t x, getT s.tmps t = .v x → a.tmps.getD t undef = rv ρ' x) {l : Nat} {st : LoopState} {pn : Option Code} {ts : List (Option Value)} {ps : List Nat} {asg bd : Code} (hl : s.heap.get l = some (.loop st pn ts ps asg bd)) :
    ∃ b r, w.heap[b]? = some (.loop r) ∧ r.state = st ∧ r.pending = pn ∧ r.params = ⟨ps⟩ ∧ r.assign = asg ∧ r.body = bd ∧ (∀ ρ', Agree s.nid ρ ρ' → ρ' l = some b) ∧ l < s.nid ∧
      ∀ st' pn' (s' : St), s'.tmps = s.tmps → s'.heap = s.heap.set l (.loop st' pn' ts ps asg bd) → s'.nid = s.nid → s'.rd = s.rd → s'.mks = s.mks → s'.bs = s.bs → Rep P J B M w0 rb s' a (w.putObj b (.loop { r with state := st', pending := pn' })) := by
  have hlt : l < s.nid := (h.known hl).elim id (fun h => by rcases h with ⟨_, _, h⟩ | ⟨_, h⟩ | ⟨_, _, _, _, h⟩ | ⟨_, _, _, _, h⟩ <;> cases h)
  obtain ⟨b, r, hb, hw, hr, hown⟩ := (hρ ρ (Agree.refl _ _)).1.obj l _ hl
  have hbl : ∀ ρ', Agree s.nid ρ ρ' → ρ' l = some b := fun ρ' ha => (ha l hlt).trans hb
  refine ⟨b, r, hw, hr.1, hr.2.1, hr.2.2.1, hr.2.2.2.1, hr.2.2.2.2.1, hbl, hlt, fun st' pn' s' e1 e2 e3 e4 e5 e6 => ?_⟩
  have hk : Keeps B M w (w.putObj b (.loop { r with state := st', pending := pn' })) :=
    ⟨rfl, rfl, rfl, by simp, fun k hk hm => World.putObj_heap_other (fun e => by subst e; exact hown.elim (fun h => by omega) (fun h => hm h))⟩
  refine ⟨by rw [e6]; exact h.low, by rw [e1]; exact h.plain, by rw [e1]; exact h.size, Nat.le_trans h.base hk.size, J.keeps hp hk h.inv, h.keeps.trans hk, ρ, by rw [e3]; exact hρ0, fun ρ' ha => ?_⟩
  rw [e3] at ha
  obtain ⟨g1, g2, g3⟩ := hρ ρ' ha
  refine ⟨?_, ⟨by rw [e5]; exact g2.defers, by rw [e4]; exact g2.round⟩, by rw [e1]; exact g3⟩
  rw [e2]
  refine g1.turn hl rfl (hbl ρ' ha) ?_ (fun k hk => World.putObj_heap_other hk)
  obtain ⟨b', r', hb', hw', hr', _⟩ := g1.obj l _ hl
  rw [hbl ρ' ha] at hb'
  cases hb'
  rw [hw] at hw'
  cases hw'
  exact ⟨b, _, rfl, World.putObj_heap_same (getElem?_lt_size hw), ⟨rfl, rfl, hr'.2.2⟩, hown⟩

theorem Rep.loop {P : Program} {J : Inv P} {B : Nat} {M : Nat → Prop} (hp : Par P B M) {w0 : Bas} {rb : Option Nat} {s : St} {a : Act} {w : World} (h : Rep P J B M w0 rb s a w) {l : Nat} {st : LoopState} {pn : Option Code} {ts : List (Option Value)} {ps : List Nat} {asg bd : Code} (hl : s.heap.get l = some (.loop st pn ts ps asg bd)) :
    ∃ b r, w.heap[b]? = some (.loop r) ∧ r.state = st ∧ r.pending = pn ∧ r.params = ⟨ps⟩ ∧ r.assign = asg ∧ r.body = bd ∧ (∀ ρ', Agree s.nid h.rep.choose ρ' → ρ' l = some b) ∧ l < s.nid ∧
      ∀ st' pn' (s' : St), s'.tmps = s.tmps → s'.heap = s.heap.set l (.loop st' pn' ts ps asg bd) → s'.nid = s.nid → s'.rd = s.rd → s'.mks = s.mks → s'.bs = s.bs → Rep P J B M w0 rb s' a (w.putObj b (.loop { r with state := st', pending := pn' })) :=
  h.loop' hp h.rep.choose_spec.1 h.rep.choose_spec.2 hl

theorem evYield_sound {X : Cx} {J : Inv X.P} (hX : CxOk X J) {l : Nat} {args : List Value} {H : Heap} {n : Nat} {ds : List Bool} {r : CR} (h : evYield X l args H n ds = some r) (hl : allP r.obs)
    {B : Nat} {M : Nat → Prop} (hp : Par X.P B M) {ρ : Num} {w : World} (hB : B ≤ w.heap.size) (hI : J.I w) {vs : List Value} (hS : ∀ ρ', Agree n ρ ρ' → Sim X.P B M ρ' H w ∧ vs = rvL ρ' args) {rb : Option Nat} :
    n ≤ r.n ∧ ∃ b fn tmps asg bd, ρ l = some b ∧ (Instr.yield b ⟨vs⟩).run X.P w = .ok (.round b fn tmps asg bd) w ∧
      RoundIn (Fl rb) 0 X.P b fn tmps asg bd w (fun e w' => ∃ ρ1 v, Agree n ρ ρ1 ∧ e = .returned v ∧ Keeps B M w w' ∧ ∀ ρ', Agree r.n ρ1 ρ' → v = rv ρ' r.v ∧ Sim X.P B M ρ' r.h w') := by
  rw [evYield_eq] at h
  split at h
  case h_2 => cases h
  rename_i st pn ts ps asg bd hget
  split at h
  case h_1 => cases h
  rename_i hlen
  have hlen := Nat.eq_of_beq_eq_true hlen
  split at h
  case h_2 => cases h
  rename_i s1 hs1
  split at h
  case h_2 => cases h
  rename_i pn1 ts1 ps1 as1 bd1 hget1
  split at h
  case h_2 => cases h
  rename_i x s2 hs2
  split at h
  case h_2 => cases h
  rename_i st2 pn2 ts2 ps2 as2 bd2 hget2
  split at h
  case h_2 => cases h
  rename_i hble
  have hble := Nat.le_of_ble_eq_true hble
  cases h
  refine ⟨hble, ?_⟩
  obtain ⟨b, rr, hb, hw, ⟨q1, q2, q3, q4, q5, q6, q7⟩, hown⟩ := (hS ρ (Agree.refl _ _)).1.obj l _ hget
  have hlt : l < n := by
    rcases Nat.lt_or_ge l n with h1 | h1
    · exact h1
    · obtain ⟨_, _, h, _⟩ := (hS (fun i => if i = l then none else ρ i) (fun i hi => by simp [show i ≠ l by omega])).1.obj l _ hget
      simp at h
  have hvs : vs.length = args.length := by rw [(hS ρ (Agree.refl _ _)).2, rvL_eq]; simp
  have hrun := run_yield (P := X.P) (args := ⟨vs⟩) hw (by rw [q3]; simp [hvs, hlen])
  refine ⟨b, rr.fn, _, rr.assign, rr.body, hb, hrun, ?_⟩
  obtain ⟨hl2, h2⟩ := hX.rd _ _ _ _ hs2 hl
  obtain ⟨_, h1⟩ := hX.rd _ _ _ _ hs1 hl2
  rw [q4, q5]
  refine roundIn_of_wpIn trivial ?_
  have hR0 : Rep X.P J B M ⟨w, n, ρ, []⟩ (some b) ⟨(setPs ts ps args).map ofOpt, H, n, ds, [], 0, some l, [], n⟩
      { tmps := (rr.params.zip (⟨vs⟩ : Array Value)).foldl (fun tmps (t, a) => tmps.setIfInBounds t a) rr.tmps, defers := [] } w := by
    have spec : ∀ ρ', Agree n ρ ρ' → _ := fun ρ' ha => setPs_spec ρ' ps args ts rr.tmps q6 (fun t x hx => by
      obtain ⟨b', r', hb', hw', hr', _⟩ := (hS ρ' ha).1.obj l _ hget
      rw [ha l hlt, hb] at hb'
      cases hb'
      rw [hw] at hw'
      cases hw'
      exact hr'.2.2.2.2.2.2 t x hx)
    have efold : ∀ ρ', Agree n ρ ρ' → (rr.params.zip (⟨vs⟩ : Array Value)).foldl (fun tmps (t, a) => tmps.setIfInBounds t a) rr.tmps = (ps.zip (rvL ρ' args)).foldl (fun (tmps : Array Value) (p : Nat × Value) => tmps.setIfInBounds p.1 p.2) rr.tmps := fun ρ' ha => by
      rw [q3, ← (hS ρ' ha).2, ← Array.foldl_toList]
      simp
    refine ⟨rfl, fun t => ?_, ?_, hB, hI, Keeps.refl _ _ _, ρ, ⟨Nat.le_refl _, Agree.refl _ _⟩, fun ρ' ha => ⟨(hS ρ' ha).1, ⟨rfl, ?_⟩, fun t x hx => ?_⟩⟩
    · rw [get_ofOpt]
      split <;> rfl
    · rw [efold ρ (Agree.refl _ _)]
      simpa using (spec ρ (Agree.refl _ _)).1
    · show some b = ρ' l
      rw [ha l hlt, hb]
    · rw [efold ρ' ha]
      rw [get_ofOpt] at hx
      split at hx
      · rename_i y hy
        cases hx
        exact (spec ρ' ha).2 t _ hy
      · cases hx
  refine h1 B M _ _ _ _ hp hR0 _ (fun a1 w1 hR1 => ?_)
  obtain ⟨b1, r1, hw1, t1, t2, t3, t4, t5, hb1, hlt1, hturn1⟩ := hR1.loop hp hget1
  have hbe : b1 = b := by
    have e1 := hb1 _ (Agree.refl _ _)
    obtain ⟨hr0, _⟩ := hR1.rep.choose_spec
    rw [hr0.2 l hlt] at e1
    exact (Option.some.inj (hb.symm.trans e1)).symm
  subst hbe
  refine ⟨_, run_beginRound hw1 t1, ?_⟩
  have hR2 := hturn1 .busy pn1 ⟨s1.tmps, s1.heap.set l (.loop .busy pn1 ts1 ps1 as1 bd1), s1.nid, s1.ds, s1.obs, s1.lp, s1.rd, s1.mks, s1.bs⟩ rfl rfl rfl rfl rfl rfl
  subst t2
  refine h2 B M _ _ _ _ hp hR2 _ (fun a2 w2 hR3 => ?_)
  obtain ⟨b3, r3, hw3, u1, u2, u3, u4, u5, hb3, hlt3, hturn3⟩ := hR3.loop hp hget2
  have hbe : b3 = b1 := by
    have e1 := hb3 _ (Agree.refl _ _)
    obtain ⟨hr0, _⟩ := hR3.rep.choose_spec
    rw [hr0.2 l hlt] at e1
    exact (Option.some.inj (hb.symm.trans e1)).symm
  subst hbe
  have fin : ∃ v w', (Instr.endRound b3 (jumpOf x)).run X.P w2 = .ok v w' ∧ ∃ ρ1 v', Agree n ρ ρ1 ∧ Ending.returned v = .returned v' ∧ Keeps B M w w' ∧ ∀ ρ', Agree s2.nid ρ1 ρ' → v' = rv ρ' (.bool (goesOn x)) ∧ Sim X.P B M ρ' (s2.heap.set l (.loop (stateOf x) (jumpOf x) ts2 ps2 as2 bd2)) w' := by
    have hR4 := hturn3 (stateOf x) (jumpOf x) ⟨s2.tmps, s2.heap.set l (.loop (stateOf x) (jumpOf x) ts2 ps2 as2 bd2), s2.nid, s2.ds, s2.obs, s2.lp, s2.rd, s2.mks, s2.bs⟩ rfl rfl rfl rfl rfl rfl
    obtain ⟨ρ1, hρ0, hρ1⟩ := hR4.rep
    refine ⟨_, _, run_endRound (jumpOf x) hw3, ρ1, _, hρ0.2, rfl, ?_, fun ρ' ha => ⟨?_, ?_⟩⟩
    · have := hR4.keeps
      cases x <;> exact this
    · cases x <;> simp [rv, jumpOf, goesOn]
    · have := (hρ1 ρ' ha).1
      cases x <;> exact this
  cases x with
  | normal => exact fin
  | ret => exact fin
  | exit id => exact fin

/-- What an operation comes to, its guard left aside. 'q': it may not touch memory. -/
def evBody (X : Cx) (q : Bool) (o : Oper) (conds : List (Nat × Bool)) (tmps : List TV) (H : Heap) (n : Nat) (ds : List Bool) : Option CR :=
  match globsOk X.P o with
  | false => none
  | true =>
    match s2b X.P X.auto (evo tmps conds) o.op with
    | some (e, k, ns, m, ob) => match q with
      | true => none
      | false => some ⟨.slice (some ⟨n, 0, some (n + 1)⟩) m 0, (n, .row e 1 (.ints k ns) (n + 1)) :: H, n + 2, ob, ds⟩
    | none =>
    match o.op with
    | .pick c x y => match noGlob x && noGlob y with
      | false => none
      | true => match evPick X.auto tmps conds c x y with
        | some v => some ⟨v, H, n, [], ds⟩
        | none => none
    | .call c => match c.callee with
      | .value f => match evo tmps conds f, evArgs (evo tmps conds) c.args.toList with
        | some (.func (.func fid) ⟨first⟩ ⟨cap⟩), some args =>
          match X.pc fid (first ++ args ++ cap) with
          | some (v, l) => some ⟨v, H, n, l, ds⟩
          | none => match q with
            | true => none
            | false => X.call fid (first ++ args ++ cap) H n ds
        | some (.func (.yield l) ⟨[]⟩ _), some args => match q with
          | true => none
          | false => evYield X l args H n ds
        | _, _ => none
      | .builtin b => match evArgs (evo tmps conds) c.args.toList with
        | some args => match isApp b with
          | true => match q with
            | true => none
            | false => match evAppend X.P X.auto c.argTypes.toList H n args with
              | some (v, H', l) => some ⟨v, H', n + 2, l, ds⟩
              | none => none
          | false => match isEff b with
            | true => match q with
              | true => none
              | false => match evEffB X.P X.auto b c.argTypes.toList H args with
                | some (v, H', l) => some ⟨v, H', n, l, ds⟩
                | none => none
            | false => match evBuiltin X.P b c.argTypes.toList args with
              | some v => some ⟨v, H, n, [], ds⟩
              | none => match evLook H b args with
                | some v => some ⟨v, H, n, [], ds⟩
                | none => none
        | none => none
      | _ => none
    | _ => match evOp X.P X.auto (evo tmps conds) o H n ds with
      | some r => match stillOp o.op with
        | true => some ⟨r.v, H, n, r.obs, ds⟩
        | false => match q with
          | false => some ⟨r.v, r.h, n + 1, r.obs, r.ds⟩
          | true => none
      | none => none

theorem Agree.succ {n : Nat} {ρ ρ' : Num} (h : Agree (n + 1) ρ ρ') : Agree n ρ ρ' := fun i hi => h i (by omega)

theorem evBody_sound {X : Cx} {J : Inv X.P} (hX : CxOk X J) {q : Bool} {o : Oper} {conds : List (Nat × Bool)} {tmps : List TV} {H : Heap} {n : Nat} {ds : List Bool} {r : CR} (h : evBody X q o conds tmps H n ds = some r) (hl : allP r.obs)
    {B : Nat} {M : Nat → Prop} (hp : Par X.P B M) {ρ : Num} {β : Nat → Bool} (hc : V β conds) {a : Act} {w : World} (hB : B ≤ w.heap.size) (hI : J.I w)
    (hS : ∀ ρ', Agree n ρ ρ' → Sim X.P B M ρ' H w) (hT : ∀ ρ', Agree n ρ ρ' → ∀ t, .tmp t ∈ o.op.operands.toList → TRel ρ' β (getT tmps t) (a.tmps.getD t undef))
    {rb : Option Nat} {K : Act → World → Prop} {Q : Exit → Act → World → Prop}
    (hK : ∀ v w' ρ1, Agree n ρ ρ1 → n ≤ r.n → (∀ ρ', Agree r.n ρ1 ρ' → v = rv ρ' r.v ∧ Sim X.P B M ρ' r.h w') → Keeps B M w w' →
      (q = true → r.h = H ∧ r.ds = ds ∧ r.n = n ∧ Below w.heap.size w w' ∧ ρ1 = ρ) → K (a.put o.dst v) w') :
    o.wpIn (Fl rb) 0 X.P a w K Q := by
  unfold evBody at h
  split at h
  case h_1 => cases h
  rename_i hglob
  have hglob' : ∀ x ∈ o.op.operands.toList, ∀ g, x = .global g → g < X.P.globals.size := by
    intro x hx g e
    subst e
    have := List.all_eq_true.1 hglob _ hx
    simpa [Nat.blt_eq] using this
  have hev : ∀ ρ', Agree n ρ ρ' → ∀ x ∈ o.op.operands.toList, ∀ y, evo tmps conds x = some y → a.eval x = rv ρ' y := fun ρ' ha x hx y hy =>
    evo_sound (hS ρ' ha) hc hy (fun t e => hT ρ' ha t (e ▸ hx)) (hglob' x hx)
  have still : ∀ {v : Value}, (∀ ρ', Agree n ρ ρ' → (execOp a.eval o).run X.P w = .ok (.value (rv ρ' v)) w) → (∀ c, o.op ≠ .defer c) → r.v = v → r.h = H → r.n = n → r.ds = ds → o.wpIn (Fl rb) 0 X.P a w K Q := by
    intro v h1 hnd h2 h3 h4 h5
    refine wpIn_Fl hnd ?_
    rw [h1 ρ (Agree.refl _ _), Oper.uponIn_value]
    refine hK _ w ρ (Agree.refl _ _) (by omega) (fun ρ' ha => ?_) (Keeps.refl _ _ _) (fun _ => ⟨h3, h5, h4, Below.refl _ _, rfl⟩)
    have ha' : Agree n ρ ρ' := fun i hi => ha i (by omega)
    refine ⟨?_, by rw [h3]; exact hS ρ' ha'⟩
    have e1 := h1 ρ (Agree.refl _ _)
    rw [h1 ρ' ha'] at e1
    rw [h2]
    injection e1 with e1
    injection e1 with e1
    exact e1.symm
  split at h
  · -- a text's bytes
    rename_i e k ns m ob hs2
    split at h
    · cases h
    cases h
    obtain ⟨hnd, w', cap, hex, hk, hsim⟩ := s2b_run (a := a.eval) (M := M) hs2 hl (hev ρ (Agree.refl _ _)) hB n
    refine wpIn_Fl hnd ?_
    rw [hex, Oper.uponIn_value]
    refine hK _ w' (fun i => if i = n then some w.heap.size else if i = n + 1 then some cap else ρ i) (fun i hi => ?_) (by simp) (fun ρ' ha => ?_) hk (fun h => by cases h)
    · show (if i = n then some w.heap.size else if i = n + 1 then some cap else ρ i) = ρ i
      rw [if_neg (by omega), if_neg (by omega)]
    · have h1 := ha n (by simp)
      have h2 := ha (n + 1) (by simp)
      simp only [if_true] at h1
      simp only [show n + 1 ≠ n by omega, if_false, if_true] at h2
      refine ⟨?_, hsim ρ' H (hS ρ' (fun i hi => ?_)) h1 h2⟩
      · simp only [rv, rSl, h1, h2, Option.getD_some, Nat.sub_zero]
      · have := ha i (by simp; omega)
        simp only [show i ≠ n by omega, show i ≠ n + 1 by omega, if_false] at this
        exact this
  split at h
  · -- pick
    rename_i c x y ho
    split at h
    case h_1 => cases h
    rename_i hng
    simp only [Bool.and_eq_true] at hng
    split at h
    case h_2 => cases h
    rename_i v hv
    cases h
    refine still (v := v) (fun ρ' ha => ?_) (by rw [ho]; intro c hc; cases hc) rfl rfl rfl rfl
    have := evPick_sound (a := a) (hS ρ' ha) hc hv (fun t e => hT ρ' ha t (by
      rw [ho]; simp only [Op.operands]
      rcases e with e | e | e <;> simp [e])) hng.1 hng.2
    simp only [execOp, ho]
    exact this
  · -- a call
    rename_i c ho
    split at h
    · rename_i f hcal
      split at h
      case h_3 => cases h
      case h_2 =>
        rename_i l cap args hf hargs
        split at h
        case h_1 => cases h
        have hfm : f ∈ o.op.operands.toList := by rw [ho]; simp [Op.operands, Call.operands, hcal]
        have ham : ∀ x ∈ c.args.toList, x ∈ o.op.operands.toList := fun x hx => by rw [ho]; simp [Op.operands, Call.operands, hcal]; exact .inr (by simpa using hx)
        have e2 : ∀ ρ', Agree n ρ ρ' → (c.args.map a.eval).toList = rvL ρ' args := fun ρ' ha => by
          have := evArgs_sound (a := a.eval) (ρ := ρ') c.args.toList args (fun x hx y hy => hev ρ' ha x (ham x hx) y hy) hargs
          simpa using this
        obtain ⟨hn, b, fn, tmps1, asg, bd, hb, hrun, hround⟩ := evYield_sound hX h hl hp hB hI (vs := (c.args.map a.eval).toList) (rb := rb) (fun ρ' ha => ⟨hS ρ' ha, e2 ρ' ha⟩)
        refine wpIn_Fl (by rw [ho]; intro c hc; cases hc) ?_
        have hex : (execOp a.eval o).run X.P w = .ok (.round b fn tmps1 asg bd) w := by
          have e1 := hev ρ (Agree.refl _ _) f hfm _ hf
          simp only [execOp, ho, resolve, hcal, e1, rv, rvA, rvL, rFn, hb, Option.getD_some, Deferred.ofValue, pure_bind, invoke]
          have e0 : (⟨(c.args.map a.eval).toList⟩ : Array Value) = c.args.map a.eval := rfl
          rw [e0] at hrun
          simpa using hrun
        rw [hex, Oper.uponIn_round]
        refine ⟨fun h => (by cases h), hround.mono fun e w' hh => ?_⟩
        obtain ⟨ρ1, v, ha1, he, hk, hfin⟩ := hh
        subst he
        exact hK v w' ρ1 ha1 hn hfin hk (fun hq' => by cases hq')
      rename_i fid first cap args hf hargs
      have hfm : f ∈ o.op.operands.toList := by rw [ho]; simp [Op.operands, Call.operands, hcal]
      have ham : ∀ x ∈ c.args.toList, x ∈ o.op.operands.toList := fun x hx => by rw [ho]; simp [Op.operands, Call.operands, hcal]; exact .inr (by simpa using hx)
      have hrunx : ∀ ρ', Agree n ρ ρ' → (execOp a.eval o).run X.P w = (callFunc fid ⟨rvL ρ' (first ++ args ++ cap)⟩).run X.P w := by
        intro ρ' ha
        have e1 := hev ρ' ha f hfm _ hf
        have e2 := evArgs_sound (a := a.eval) (ρ := ρ') c.args.toList args (fun x hx y hy => hev ρ' ha x (ham x hx) y hy) hargs
        have e3 : c.args.map a.eval = ⟨rvL ρ' args⟩ := by apply Array.ext'; simpa using e2
        simp only [execOp, ho, resolve, hcal, e1, e3, rv, rvA, rFn, Deferred.ofValue, pure_bind, invoke]
        have e4 : ((⟨rvL ρ' first⟩ : Array Value) ++ (⟨rvL ρ' args⟩ : Array Value) ++ (⟨rvL ρ' cap⟩ : Array Value)) = ⟨rvL ρ' (first ++ args ++ cap)⟩ := by
          simp [rvL_eq]
        rw [e4]
      have hrun : ∀ ρ', Agree n ρ ρ' → Enters X.P fid → (execOp a.eval o).run X.P w = .ok (.enter fid ⟨rvL ρ' (first ++ args ++ cap)⟩) w := by
        intro ρ' ha hent
        rw [hrunx ρ' ha]
        exact hent _ _
      split at h
      · rename_i v l hpc
        cases h
        obtain ⟨hpl, hpv, ⟨hent, hcalls⟩ | hext⟩ := hX.pc _ _ _ _ hpc hl
        · refine wpIn_Fl (by rw [ho]; intro c hc; cases hc) ?_
          rw [hrun ρ (Agree.refl _ _) hent, Oper.uponIn_enter, rvL_pure ρ _ hpl]
          refine ⟨fun h => (by cases h), callsIn_Fl ((hcalls w hI).mono fun e w' ⟨he, hb⟩ => ?_)⟩
          subst he
          refine hK v w' ρ (Agree.refl _ _) (Nat.le_refl _) (fun ρ' ha => ⟨(rv_pure ρ' v hpv).symm, (hS ρ' ha).below hb⟩) (Keeps.of_below hb hB) (fun _ => ⟨rfl, rfl, rfl, hb, rfl⟩)
        · refine wpIn_Fl (by rw [ho]; intro c hc; cases hc) ?_
          rw [hrunx ρ (Agree.refl _ _), rvL_pure ρ _ hpl, hext w hI, Oper.uponIn_value]
          exact hK v w ρ (Agree.refl _ _) (Nat.le_refl _) (fun ρ' ha => ⟨(rv_pure ρ' v hpv).symm, hS ρ' ha⟩) (Keeps.refl _ _ _) (fun _ => ⟨rfl, rfl, rfl, Below.refl _ _, rfl⟩)
      · split at h
        · cases h
        · rename_i hq
          obtain ⟨hn, hcl⟩ := call_sound hX h hl
          refine wpIn_does (by rw [ho]; intro c hc; cases hc) (hrunx ρ (Agree.refl _ _)) ((hcl B M ρ w _ hp hB hI (fun ρ' ha => ⟨hS ρ' ha, ?_⟩)).mono fun e w' hh => ?_)
          · have e1 := hev ρ (Agree.refl _ _) f hfm _ hf
            have e1' := hev ρ' ha f hfm _ hf
            have e2 := evArgs_sound (a := a.eval) (ρ := ρ) c.args.toList args (fun x hx y hy => hev ρ (Agree.refl _ _) x (ham x hx) y hy) hargs
            have e2' := evArgs_sound (a := a.eval) (ρ := ρ') c.args.toList args (fun x hx y hy => hev ρ' ha x (ham x hx) y hy) hargs
            rw [e1] at e1'
            simp only [rv, rvA] at e1'
            injection e1' with _ g1 g2
            injection g1 with g1
            injection g2 with g2
            rw [e2] at e2'
            rw [rvL_append, rvL_append, rvL_append, rvL_append, g1, g2, e2']
          · obtain ⟨ρ1, v, ha1, he, hk, hfin⟩ := hh
            exact ⟨v, he, hK v w' ρ1 ha1 hn hfin hk (fun hq' => by cases hq')⟩
    · rename_i b hcal
      split at h
      case h_2 => cases h
      rename_i args hargs
      have ham : ∀ x ∈ c.args.toList, x ∈ o.op.operands.toList := fun x hx => by rw [ho]; simp [Op.operands, Call.operands, hcal]; simpa using hx
      split at h
      · rename_i happ
        have happ := isApp_spec happ
        subst happ
        split at h
        · cases h
        rename_i hq
        split at h
        case h_2 => cases h
        rename_i v H' l hv
        cases h
        have e2 : ∀ ρ', Agree n ρ ρ' → (c.args.map a.eval).toList = rvL ρ' args := fun ρ' ha => by
          have := evArgs_sound (a := a.eval) (ρ := ρ') c.args.toList args (fun x hx y hy => hev ρ' ha x (ham x hx) y hy) hargs
          simpa using this
        have e3 : c.args.map a.eval = (rvL ρ args).toArray := by apply Array.ext'; exact e2 ρ (Agree.refl _ _)
        obtain ⟨v', w', ρ1, ha1, hrun, hk, hfin⟩ := evAppend_sound hv hl hB hS (fun ρ' ha => (e2 ρ' ha).symm.trans (e2 ρ (Agree.refl _ _))) o.type
        refine wpIn_Fl (by rw [ho]; intro c hc; cases hc) ?_
        have hex : (execOp a.eval o).run X.P w = .ok (.value v') w' := by
          simp only [execOp, ho, resolve, hcal, e3, pure_bind, invoke, builtin]
          have : (c.argTypes.toList.toArray : Array TypeId) = c.argTypes := by simp
          rw [this] at hrun
          simp [hrun]
        rw [hex, Oper.uponIn_value]
        exact hK v' w' ρ1 ha1 (by simp) hfin hk (fun hq' => by cases hq')
      split at h
      · split at h
        · cases h
        split at h
        case h_2 => cases h
        rename_i v H' l hv
        cases h
        have e2 : ∀ ρ', Agree n ρ ρ' → (c.args.map a.eval).toList = rvL ρ' args := fun ρ' ha => by
          have := evArgs_sound (a := a.eval) (ρ := ρ') c.args.toList args (fun x hx y hy => hev ρ' ha x (ham x hx) y hy) hargs
          simpa using this
        have e3 : c.args.map a.eval = (rvL ρ args).toArray := by apply Array.ext'; exact e2 ρ (Agree.refl _ _)
        obtain ⟨v', w', ρ1, ha1, hrun, hk, hfin⟩ := evEffB_sound hv hl hS (fun ρ' ha => (e2 ρ' ha).symm.trans (e2 ρ (Agree.refl _ _))) o.type (c.args.map fun | .const _ => true | _ => false)
        refine wpIn_Fl (by rw [ho]; intro c hc; cases hc) ?_
        have hex : (execOp a.eval o).run X.P w = .ok (.value v') w' := by
          simp only [execOp, ho, resolve, hcal, e3, pure_bind, invoke]
          exact hrun
        rw [hex, Oper.uponIn_value]
        exact hK v' w' ρ1 ha1 (Nat.le_refl _) hfin hk (fun hq' => by cases hq')
      have e3 : ∀ ρ', Agree n ρ ρ' → c.args.map a.eval = ⟨rvL ρ' args⟩ := fun ρ' ha => by
        have e2 := evArgs_sound (a := a.eval) (ρ := ρ') c.args.toList args (fun x hx y hy => hev ρ' ha x (ham x hx) y hy) hargs
        apply Array.ext'; simpa using e2
      split at h
      · rename_i v hv
        cases h
        refine still (v := v) (fun ρ' ha => ?_) (by rw [ho]; intro c hc; cases hc) rfl rfl rfl rfl
        simp only [execOp, ho, resolve, hcal, e3 ρ' ha, pure_bind, invoke]
        exact evBuiltin_sound hv ρ' w _ _
      · split at h
        case h_2 => cases h
        rename_i v hv
        cases h
        refine still (v := v) (fun ρ' ha => ?_) (by rw [ho]; intro c hc; cases hc) rfl rfl rfl rfl
        simp only [execOp, ho, resolve, hcal, e3 ρ' ha, pure_bind, invoke]
        exact evLook_sound (hS ρ' ha) hv _ _ _
    · cases h
  · -- all others
    split at h
    case h_2 => cases h
    rename_i r0 hr0
    split at h
    · rename_i hst
      cases h
      have each : ∀ ρ', Agree n ρ ρ' → _ := fun ρ' ha =>
        evOp_sound (a := a.eval) (hS ρ' ha) hB (fun hs => by rw [hst] at hs; cases hs) (fun x hx y hy => hev ρ' ha x hx y hy) hr0 hl
      obtain ⟨nx, w', h1, h2, h3, h4, h5⟩ := each _ (Agree.refl _ _)
      obtain ⟨h6, h7, h8⟩ := h5 hst
      subst h8
      have all : ∀ ρ', Agree n ρ ρ' → NextVal nx (rv ρ' r0.v) := by
        intro ρ' ha
        obtain ⟨nx2, w2, g1, g2, g3, _⟩ := each ρ' ha
        rw [h1] at g1
        cases g1
        exact g2
      refine wpIn_Fl (evOp_nodefer hr0) ?_
      rcases h2 with hnx | ⟨hnx, hu⟩
      · rw [h1, hnx, Oper.uponIn_value]
        refine hK _ _ ρ (Agree.refl _ _) (Nat.le_refl _) (fun ρ' ha => ⟨?_, hS ρ' ha⟩) (Keeps.refl _ _ _) (fun _ => ⟨rfl, rfl, rfl, Below.refl _ _, rfl⟩)
        rcases all ρ' ha with e | ⟨e, _⟩
        · rw [hnx] at e; injection e
        · rw [hnx] at e; cases e
      · rw [h1, hnx, Oper.uponIn_skip]
        refine hK _ _ ρ (Agree.refl _ _) (Nat.le_refl _) (fun ρ' ha => ⟨?_, hS ρ' ha⟩) (Keeps.refl _ _ _) (fun _ => ⟨rfl, rfl, rfl, Below.refl _ _, rfl⟩)
        rcases all ρ' ha with e | ⟨_, e⟩
        · rw [hnx] at e; cases e
        · exact e.symm
    · split at h
      case h_2 => cases h
      cases h
      have each : ∀ ρ', Agree (n + 1) (fun i => if i = n then some w.heap.size else ρ i) ρ' → _ := fun ρ' ha =>
        evOp_sound (a := a.eval) (hS ρ' (fun i hi => by rw [ha i (by omega)]; simp [Nat.ne_of_lt hi])) hB (fun _ => by rw [ha n (by omega)]; simp)
          (fun x hx y hy => hev ρ' (fun i hi => by rw [ha i (by omega)]; simp [Nat.ne_of_lt hi]) x hx y hy) hr0 hl
      obtain ⟨nx, w', h1, h2, h3, h4, h5⟩ := each _ (Agree.refl _ _)
      have all : ∀ ρ', Agree (n + 1) (fun i => if i = n then some w.heap.size else ρ i) ρ' → NextVal nx (rv ρ' r0.v) ∧ Sim X.P B M ρ' r0.h w' := by
        intro ρ' ha
        obtain ⟨nx2, w2, g1, g2, g3, _⟩ := each ρ' ha
        rw [h1] at g1
        cases g1
        exact ⟨g2, g3⟩
      have hag : Agree n ρ (fun i => if i = n then some w.heap.size else ρ i) := fun i hi => by simp [Nat.ne_of_lt hi]
      refine wpIn_Fl (evOp_nodefer hr0) ?_
      rcases h2 with hnx | ⟨hnx, hu⟩
      · rw [h1, hnx, Oper.uponIn_value]
        refine hK _ w' _ hag (by simp) (fun ρ' ha => ⟨?_, (all ρ' ha).2⟩) h4 (fun hq' => by cases hq')
        rcases (all ρ' ha).1 with e | ⟨e, _⟩
        · rw [hnx] at e; injection e
        · rw [hnx] at e; cases e
      · rw [h1, hnx, Oper.uponIn_skip]
        refine hK _ w' _ hag (by simp) (fun ρ' ha => ⟨?_, (all ρ' ha).2⟩) h4 (fun hq' => by cases hq')
        rcases (all ρ' ha).1 with e | ⟨_, e⟩
        · rw [hnx] at e; cases e
        · exact e.symm

end
end Go.Proofs.YtaopinmjgjpiiaaGreatDoor.Ev
