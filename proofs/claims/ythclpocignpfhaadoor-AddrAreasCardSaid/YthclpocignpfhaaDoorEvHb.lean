/-
  The evaluator, part Hb: drawn regions whose first operations also lay blocks. Operation i's block has the number n0 + i; an operation sees the blocks of those that it waits for.
-/
import Derived.Test.YthclpocignpfhaaDoorEvH
namespace Go.Proofs.YthclpocignpfhaaDoor.Ev
open Go Go.RowKit Go.Shelf

/-! Values under other numbers. -/

abbrev Ren := List (Nat × Nat)

def Ren.to : Ren → Nat → Nat
  | [], i => i
  | (j, k) :: r, i => match Nat.beq j i with
    | true => k
    | false => Ren.to r i

def Ren.num (σ : Ren) : Num := fun i => some (σ.to i)

def rnFn (σ : Ren) : Fn → Fn
  | .yield l => .yield (σ.to l)
  | f => f

mutual
/-- A value under other numbers. -/
def rn (σ : Ren) : Value → Value
  | .pointer (some a) => .pointer (some { a with block := σ.to a.block })
  | .slice (some ⟨j, off, none⟩) n c => .slice (some ⟨σ.to j, off, none⟩) n c
  | .slice (some ⟨j, off, some k⟩) n c => .slice (some ⟨σ.to j, off, some (σ.to k)⟩) n c
  | .map (some r) => .map (some (σ.to r))
  | .func fn f c => .func (rnFn σ fn) (rnA σ f) (rnA σ c)
  | .iface t v => .iface t (rn σ v)
  | .agg cs => .agg (rnA σ cs)
  | .tuple vs => .tuple (rnA σ vs)
  | .bool b => .bool b
  | .int k n => .int k n
  | .float k n => .float k n
  | .complex k a b => .complex k a b
  | .string s => .string s
  | .pointer none => .pointer none
  | .slice none n c => .slice none n c
  | .map none => .map none
  | .chan r => .chan r
  | .nilFunc => .nilFunc
  | .nilIface => .nilIface
def rnA (σ : Ren) : Array Value → Array Value
  | ⟨l⟩ => ⟨rnL σ l⟩
def rnL (σ : Ren) : List Value → List Value
  | [] => []
  | v :: l => rn σ v :: rnL σ l
end

theorem rnL_length (σ : Ren) : ∀ l : List Value, (rnL σ l).length = l.length
  | [] => by simp [rnL]
  | v :: l => by simp [rnL, rnL_length σ l]

theorem rFn_rn (ρ : Num) (σ : Ren) (f : Fn) : rFn ρ (rnFn σ f) = rFn (fun i => ρ (σ.to i)) f := by
  cases f <;> rfl

mutual
theorem rv_rn (ρ : Num) (σ : Ren) : ∀ v : Value, rv ρ (rn σ v) = rv (fun i => ρ (σ.to i)) v
  | .pointer (some a) => by simp [rv, rn, rAddr]
  | .slice (some ⟨j, off, none⟩) n c => by simp [rv, rn, rSl, rAddr]
  | .slice (some ⟨j, off, some k⟩) n c => by simp [rv, rn, rSl]
  | .map (some r) => by simp [rv, rn]
  | .func fn f c => by simp only [rv, rn, rFn_rn, rvA_rn ρ σ f, rvA_rn ρ σ c]
  | .iface t v => by simp only [rv, rn, rv_rn ρ σ v]
  | .agg cs => by simp only [rv, rn, rvA_rn ρ σ cs]
  | .tuple vs => by simp only [rv, rn, rvA_rn ρ σ vs]
  | .bool _ => by simp only [rv, rn]
  | .int _ _ => by simp only [rv, rn]
  | .float _ _ => by simp only [rv, rn]
  | .complex _ _ _ => by simp only [rv, rn]
  | .string _ => by simp only [rv, rn]
  | .pointer none => by simp only [rv, rn]
  | .slice none _ _ => by simp only [rv, rn]
  | .map none => by simp only [rv, rn]
  | .chan _ => by simp only [rv, rn]
  | .nilFunc => by simp only [rv, rn]
  | .nilIface => by simp only [rv, rn]
theorem rvA_rn (ρ : Num) (σ : Ren) : ∀ v : Array Value, rvA ρ (rnA σ v) = rvA (fun i => ρ (σ.to i)) v
  | ⟨l⟩ => by simp only [rvA, rnA, rvL_rn ρ σ l]
theorem rvL_rn (ρ : Num) (σ : Ren) : ∀ v : List Value, rvL ρ (rnL σ v) = rvL (fun i => ρ (σ.to i)) v
  | [] => by simp only [rvL, rnL]
  | v :: l => by simp only [rvL, rnL, rv_rn ρ σ v, rvL_rn ρ σ l]
end

/-- Operations that lay a block and read none. -/
def layOp : Op → Bool
  | .alloc _ => true
  | .box _ _ => true
  | .buildSlice _ _ _ => true
  | .range _ _ => true
  | _ => false

theorem evOp_lay {P : Program} {auto : Bool} {ev : Operand → Option Value} {o : Oper} {n : Nat} {ds : List Bool} {r : R} (hlay : layOp o.op = true) (h : evOp P auto ev o [] n ds = some r) :
    ∃ ob, r.h = [(n, ob)] ∧ r.obs = [] ∧ r.ds = ds ∧ ∀ H, evOp P auto ev o H n ds = some ⟨r.v, (n, ob) :: H, [], ds⟩ := by
  unfold evOp at h ⊢
  cases ho : o.op with
  | alloc t =>
    rw [ho] at h
    simp only at h ⊢
    split at h
    · rename_i z hz; cases h; exact ⟨_, rfl, rfl, rfl, fun _ => rfl⟩
    · cases h
  | box t x =>
    rw [ho] at h
    simp only at h ⊢
    split at h
    · rename_i z hz; cases h; exact ⟨_, rfl, rfl, rfl, fun _ => rfl⟩
    · cases h
  | buildSlice t len ps =>
    rw [ho] at h
    simp only at h ⊢
    split at h
    · rename_i l hl
      split at h
      · rename_i e cs hz; cases h; exact ⟨_, rfl, rfl, rfl, fun _ => rfl⟩
      · cases h
    · cases h
  | range t x =>
    rw [ho] at h
    simp only at h ⊢
    split at h
    · rename_i s h1 h2; cases h; exact ⟨_, rfl, rfl, rfl, fun _ => rfl⟩
    · cases h
  | _ => rw [ho] at hlay; cases hlay

theorem lay_still {o : Oper} (h : layOp o.op = true) : stillOp o.op = false := by
  cases ho : o.op <;> rw [ho] at h <;> first | (cases h; done) | rfl

theorem evBody_lay_eq {X : Cx} {q : Bool} {o : Oper} {conds : List (Nat × Bool)} {tmps : List TV} {H : Heap} {n : Nat} {ds : List Bool} (hlay : layOp o.op = true) : evBody X q o conds tmps H n ds =
    match globsOk X.P o with
    | false => none
    | true => match evOp X.P X.auto (evo tmps conds) o H n ds with
      | some r => match q with
        | false => some ⟨r.v, r.h, n + 1, r.obs, r.ds⟩
        | true => none
      | none => none := by
  have hst := lay_still hlay
  unfold evBody
  cases globsOk X.P o with
  | false => rfl
  | true =>
    cases ho : o.op <;> rw [ho] at hlay hst <;> first | (cases hlay; done) | (cases q <;> rfl)

theorem evBody_lay {X : Cx} {o : Oper} {conds : List (Nat × Bool)} {tmps : List TV} {n : Nat} {ds : List Bool} {r : CR} (hlay : layOp o.op = true) (h : evBody X false o conds tmps [] n ds = some r) :
    ∃ ob, r.h = [(n, ob)] ∧ r.ds = ds ∧ ∀ H, evBody X false o conds tmps H n ds = some ⟨r.v, (n, ob) :: H, r.n, r.obs, r.ds⟩ := by
  rw [evBody_lay_eq hlay] at h
  split at h
  · cases h
  · rename_i hg
    split at h
    case h_2 => cases h
    rename_i r0 hr0
    cases h
    obtain ⟨ob, e1, e2, e3, e4⟩ := evOp_lay hlay hr0
    refine ⟨ob, e1, e3, fun H => ?_⟩
    rw [evBody_lay_eq hlay, hg]
    simp only [e4 H, e2, e3]

theorem evBody_lay_q {X : Cx} {o : Oper} {conds : List (Nat × Bool)} {tmps : List TV} {H : Heap} {n : Nat} {ds : List Bool} (hlay : layOp o.op = true) : evBody X true o conds tmps H n ds = none := by
  rw [evBody_lay_eq hlay]
  split
  · rfl
  · split <;> rfl

theorem evEff_lay {X : Cx} {os : List Oper} {o : Oper} {tmps tmps' : List TV} {n : Nat} {ds : List Bool} {kv kv' : KV} {tv : TV} {r : CR} (hlay : layOp o.op = true)
    (h : evEff X false os o tmps [] n ds kv = some (tmps', kv', tv, r)) : r.ds = ds ∧ (r.h = [] ∨ ∃ ob, r.h = [(n, ob)]) ∧ ∀ H, evEff X false os o tmps H n ds kv = some (tmps', kv', tv, ⟨r.v, r.h ++ H, r.n, r.obs, r.ds⟩) := by
  rw [evEff_eq] at h
  split at h
  · cases h
  · rename_i hg
    cases h
    refine ⟨rfl, .inl rfl, fun H => ?_⟩
    rw [evEff_eq, hg]
    rfl
  · rename_i conds hg
    split at h
    · cases h
    · rename_i r1 hand
      cases h
      rcases evAnd_some hand with ⟨r0, hb, er⟩ | ⟨_, hc, _, r0, hb, er⟩
      · subst er
        cases hc : hasC conds with
        | true =>
          rw [hc] at hb
          rw [show (false || true) = true from rfl, evBody_lay_q hlay] at hb
          cases hb
        | false =>
          rw [hc] at hb
          obtain ⟨ob, e1, e2, e3⟩ := evBody_lay hlay hb
          refine ⟨e2, .inr ⟨ob, e1⟩, fun H => ?_⟩
          rw [evEff_eq, hg]
          simp only [evAnd, hc]
          have := e3 H
          rw [show (false || false) = false from rfl, this]
          simp only [e1]
          rfl
      · subst er
        obtain ⟨ob, e1, e2, e3⟩ := evBody_lay hlay hb
        refine ⟨e2, .inr ⟨ob, e1⟩, fun H => ?_⟩
        rw [evEff_eq, hg]
        simp only [evAnd, hc]
        rw [show (false || true) = true from rfl, evBody_lay_q hlay, e3 H]
        simp only [e1]
        rfl

/-- One operation that leaves memory alone or lays one block, whatever the numberings. -/
theorem evBodyF_sound {X : Cx} {J : Inv X.P} (hX : CxOk X J) {q : Bool} {o : Oper} {conds : List (Nat × Bool)} {tmps : List TV} {H : Heap} {n : Nat} {ds : List Bool} {r : CR} (h : evBody X q o conds tmps H n ds = some r) (hq : q = true ∨ layOp o.op = true) (hl : allP r.obs)
    {B : Nat} {M : Nat → Prop} (_hp : Par X.P B M) {F : Num → Prop} {ρ : Num} (hF : F ρ) {β : Nat → Bool} (hc : V β conds) {a : Act} {w : World} (hB : B ≤ w.heap.size) (hI : J.I w)
    (hS : ∀ ρ', F ρ' → Sim X.P B M ρ' H w) (hT : ∀ ρ', F ρ' → ∀ t, .tmp t ∈ o.op.operands.toList → TRel ρ' β (getT tmps t) (a.tmps.getD t undef)) (hnew : q = false → ∀ ρ', F ρ' → ρ' n = some w.heap.size)
    {rb : Option Nat} {K : Act → World → Prop} {Q : Exit → Act → World → Prop}
    (hK : ∀ v w', (∀ ρ', F ρ' → v = rv ρ' r.v ∧ Sim X.P B M ρ' r.h w') → Keeps B M w w' → (q = true → Below w.heap.size w w') → K (a.put o.dst v) w') :
    o.wpIn (Fl rb) 0 X.P a w K Q := by
  unfold evBody at h
  split at h
  case h_1 => cases h
  rename_i hglob
  have hglob' : ∀ x ∈ o.op.operands.toList, ∀ g, x = .global g → g < X.P.globals.size := by
    intro x hx g e
    subst e
    have := List.all_eq_true.1 hglob _ hx
    simpa [Nat.blt_eq] using this
  have hev : ∀ ρ', F ρ' → ∀ x ∈ o.op.operands.toList, ∀ y, evo tmps conds x = some y → a.eval x = rv ρ' y := fun ρ' ha x hx y hy =>
    evo_sound (hS ρ' ha) hc hy (fun t e => hT ρ' ha t (e ▸ hx)) (hglob' x hx)
  have still : ∀ {v : Value}, (∀ ρ', F ρ' → (execOp a.eval o).run X.P w = .ok (.value (rv ρ' v)) w) → (∀ c, o.op ≠ .defer c) → r.v = v → r.h = H → o.wpIn (Fl rb) 0 X.P a w K Q := by
    intro v h1 hnd h2 h3
    refine wpIn_Fl hnd ?_
    rw [h1 ρ hF, Oper.uponIn_value]
    refine hK _ w (fun ρ' ha => ⟨?_, by rw [h3]; exact hS ρ' ha⟩) (Keeps.refl _ _ _) (fun _ => Below.refl _ _)
    have e1 := h1 ρ hF
    rw [h1 ρ' ha] at e1
    rw [h2]
    injection e1 with e1
    injection e1 with e1
    exact e1.symm
  split at h
  · -- pick
    rename_i c x y ho
    split at h
    case h_1 => cases h
    rename_i hng
    simp only [Bool.and_eq_true] at hng
    split at h
    case h_2 => cases h
    rename_i v hv
    cases h
    refine still (v := v) (fun ρ' ha => ?_) (by rw [ho]; intro c hc; cases hc) rfl rfl
    have := evPick_sound (a := a) (hS ρ' ha) hc hv (fun t e => hT ρ' ha t (by
      rw [ho]; simp only [Op.operands]
      rcases e with e | e | e <;> simp [e])) hng.1 hng.2
    simp only [execOp, ho]
    exact this
  · -- a call
    rename_i c ho
    have hq : q = true := by
      rcases hq with hq | hq
      · exact hq
      · rw [ho] at hq; cases hq
    subst hq
    split at h
    · rename_i f hcal
      split at h
      case h_3 => cases h
      case h_2 => cases h
      rename_i fid first cap args hf hargs
      have hfm : f ∈ o.op.operands.toList := by rw [ho]; simp [Op.operands, Call.operands, hcal]
      have ham : ∀ x ∈ c.args.toList, x ∈ o.op.operands.toList := fun x hx => by rw [ho]; simp [Op.operands, Call.operands, hcal]; exact .inr (by simpa using hx)
      have hrunx : ∀ ρ', F ρ' → (execOp a.eval o).run X.P w = (callFunc fid ⟨rvL ρ' (first ++ args ++ cap)⟩).run X.P w := by
        intro ρ' ha
        have e1 := hev ρ' ha f hfm _ hf
        have e2 := evArgs_sound (a := a.eval) (ρ := ρ') c.args.toList args (fun x hx y hy => hev ρ' ha x (ham x hx) y hy) hargs
        have e3 : c.args.map a.eval = ⟨rvL ρ' args⟩ := by apply Array.ext'; simpa using e2
        simp only [execOp, ho, resolve, hcal, e1, e3, rv, rvA, rFn, Deferred.ofValue, pure_bind, invoke]
        have e4 : ((⟨rvL ρ' first⟩ : Array Value) ++ (⟨rvL ρ' args⟩ : Array Value) ++ (⟨rvL ρ' cap⟩ : Array Value)) = ⟨rvL ρ' (first ++ args ++ cap)⟩ := by
          simp [rvL_eq]
        rw [e4]
      have hrun : ∀ ρ', F ρ' → Enters X.P fid → (execOp a.eval o).run X.P w = .ok (.enter fid ⟨rvL ρ' (first ++ args ++ cap)⟩) w := by
        intro ρ' ha hent
        rw [hrunx ρ' ha]
        exact hent _ _
      split at h
      case h_2 => cases h
      rename_i v l hpc
      cases h
      obtain ⟨hpl, hpv, ⟨hent, hcalls⟩ | hext⟩ := hX.pc _ _ _ _ hpc hl
      · refine wpIn_Fl (by rw [ho]; intro c hc; cases hc) ?_
        rw [hrun ρ hF hent, Oper.uponIn_enter, rvL_pure ρ _ hpl]
        refine ⟨fun h => (by cases h), callsIn_Fl ((hcalls w hI).mono fun e w' ⟨he, hb⟩ => ?_)⟩
        subst he
        refine hK v w' (fun ρ' ha => ⟨(rv_pure ρ' v hpv).symm, (hS ρ' ha).below hb⟩) (Keeps.of_below hb hB) (fun _ => hb)
      · refine wpIn_Fl (by rw [ho]; intro c hc; cases hc) ?_
        rw [hrunx ρ hF, rvL_pure ρ _ hpl, hext w hI, Oper.uponIn_value]
        exact hK v w (fun ρ' ha => ⟨(rv_pure ρ' v hpv).symm, hS ρ' ha⟩) (Keeps.refl _ _ _) (fun _ => Below.refl _ _)
    · rename_i b hcal
      split at h
      case h_2 => cases h
      rename_i args hargs
      split at h
      · cases h
      split at h
      case h_2 => cases h
      rename_i v hv
      cases h
      have ham : ∀ x ∈ c.args.toList, x ∈ o.op.operands.toList := fun x hx => by rw [ho]; simp [Op.operands, Call.operands, hcal]; simpa using hx
      refine still (v := v) (fun ρ' ha => ?_) (by rw [ho]; intro c hc; cases hc) rfl rfl
      have e2 := evArgs_sound (a := a.eval) (ρ := ρ') c.args.toList args (fun x hx y hy => hev ρ' ha x (ham x hx) y hy) hargs
      have e3 : c.args.map a.eval = ⟨rvL ρ' args⟩ := by apply Array.ext'; simpa using e2
      simp only [execOp, ho, resolve, hcal, e3, pure_bind, invoke]
      exact evBuiltin_sound hv ρ' w _ _
    · cases h
  · -- all others
    split at h
    case h_2 => cases h
    rename_i r0 hr0
    have hrr : r.v = r0.v ∧ r.h = r0.h ∧ r.obs = r0.obs ∧ (q = true → stillOp o.op = true) := by
      split at h
      · cases h; exact ⟨rfl, rfl, rfl, fun h => by cases h⟩
      · split at h
        case h_2 => cases h
        rename_i hst
        cases h
        refine ⟨rfl, ?_, rfl, fun _ => hst⟩
        have := evOp_sound (a := a.eval) (hS ρ hF) hB (fun hs => by rw [hst] at hs; cases hs) (fun x hx y hy => hev ρ hF x hx y hy) hr0 hl
        obtain ⟨_, _, _, _, _, _, h5⟩ := this
        exact (h5 hst).1.symm
    obtain ⟨e1, e2, e3, e4⟩ := hrr
    rw [e3] at hl
    have each : ∀ ρ', F ρ' → _ := fun ρ' ha =>
      evOp_sound (a := a.eval) (hS ρ' ha) hB (fun hs => by
        cases q with
        | true => rw [e4 rfl] at hs; cases hs
        | false => exact hnew rfl ρ' ha) (fun x hx y hy => hev ρ' ha x hx y hy) hr0 hl
    obtain ⟨nx, w', h1, h2, h3, h4, h5⟩ := each ρ hF
    have all : ∀ ρ', F ρ' → NextVal nx (rv ρ' r0.v) ∧ Sim X.P B M ρ' r0.h w' := by
      intro ρ' ha
      obtain ⟨nx2, w2, g1, g2, g3, _⟩ := each ρ' ha
      rw [h1] at g1
      cases g1
      exact ⟨g2, g3⟩
    refine wpIn_Fl (evOp_nodefer hr0) ?_
    rw [e1, e2] at hK
    have hbel : q = true → Below w.heap.size w w' := fun hq' => by rw [(h5 (e4 hq')).2.2]; exact Below.refl _ _
    rcases h2 with hnx | ⟨hnx, hu⟩
    · rw [h1, hnx, Oper.uponIn_value]
      refine hK _ w' (fun ρ' ha => ⟨?_, (all ρ' ha).2⟩) h4 hbel
      rcases (all ρ' ha).1 with e | ⟨e, _⟩
      · rw [hnx] at e; injection e
      · rw [hnx] at e; cases e
    · rw [h1, hnx, Oper.uponIn_skip]
      refine hK _ w' (fun ρ' ha => ⟨?_, (all ρ' ha).2⟩) h4 hbel
      rcases (all ρ' ha).1 with e | ⟨_, e⟩
      · rw [hnx] at e; cases e
      · exact e.symm

theorem evEffF_sound {X : Cx} {J : Inv X.P} (hX : CxOk X J) {q : Bool} {os : List Oper} {i : Nat} {o : Oper} (hi : os[i]? = some o) {tmps tmps' : List TV} {H : Heap} {n : Nat} {ds : List Bool} {kv kv' : KV} {tv : TV} {r : CR}
    (h : evEff X q os o tmps H n ds kv = some (tmps', kv', tv, r)) (hq : q = true ∨ layOp o.op = true) (hl : allP r.obs)
    {B : Nat} {M : Nat → Prop} (hp : Par X.P B M) {F : Num → Prop} {ρ : Num} (hF : F ρ) {Cβ : (Nat → Bool) → Prop} (hne : ∃ β, Cβ β) (hCβ : ∀ β, Cβ β → KVok kv' β) {a : Act} {w : World} (hB : B ≤ w.heap.size) (hI : J.I w)
    (hS : ∀ ρ', F ρ' → Sim X.P B M ρ' H w) (hT : ∀ ρ', F ρ' → ∀ β, Cβ β → ∀ t ∈ looks os o, TRel ρ' β (getT tmps t) (a.tmps.getD t undef)) (hnew : q = false → ∀ ρ', F ρ' → ρ' n = some w.heap.size)
    {rb : Option Nat} {K : Act → World → Prop} {Q : Exit → Act → World → Prop}
    (hK : ∀ v w', (∀ ρ', F ρ' → Sim X.P B M ρ' r.h w' ∧ ∀ β, Cβ β → TRel ρ' β tv v) → Keeps B M w w' → (q = true → Below w.heap.size w w') → K (a.put o.dst v) w') :
    wpOpIn (Fl rb) 0 X.P ⟨os⟩ Q i K a w := by
  have hoi : (⟨os⟩ : Array Oper)[i]? = some o := by simpa using hi
  unfold wpOpIn
  rw [hoi]
  simp only []
  obtain ⟨β0, hβ0⟩ := hne
  rw [evEff_eq] at h
  split at h
  · cases h
  · -- skipped
    rename_i tmps1 kv1 conds1 hg
    cases h
    have g := evGuard_sound hg (hCβ β0 hβ0) (fun t ht _ => hT ρ hF β0 hβ0 t ht)
    rw [if_neg (by rw [g.2.1 rfl]; simp)]
    refine ⟨about_Fl, ?_⟩
    exact hK undef w (fun ρ' ha => ⟨hS ρ' ha, fun β _ => (rv_undef ρ').symm⟩) (Keeps.refl _ _ _) (fun _ => Below.refl _ _)
  · rename_i tmps1 kv1 conds hg
    split at h
    · cases h
    · rename_i r1 hand
      cases h
      have g : ∀ ρ', F ρ' → ∀ β, Cβ β → _ := fun ρ' ha β hβ => evGuard_sound hg (hCβ β hβ) (fun t ht _ => hT ρ' ha β hβ t ht)
      have hw : ∀ β, Cβ β → (Region.wanted o (yielded ⟨os⟩ a.tmps) = true ↔ V β conds) := fun β hβ => (g ρ hF β hβ).2.2.1 rfl
      have run : ∀ (q' : Bool) (r0 : CR), (q' = true ∨ layOp o.op = true) → (q = true → q' = true) → (q' = false → q = false) → r.v = r0.v → r.h = r0.h → evBody X q' o conds tmps' H n ds = some r0 → allP r0.obs → V β0 conds →
          (if Region.wanted o (yielded ⟨os⟩ a.tmps) = true then o.wpIn (Fl rb) 0 X.P a w K Q else (∀ f, o.about X.P w a.eval = some f → (Fl rb).fn f) ∧ K (a.put o.dst undef) w) := by
        intro q' r0 hqq hq1 hq2 e1 e2 hb hl0 hV
        have hwt := (hw β0 hβ0).2 hV
        rw [if_pos hwt]
        refine evBodyF_sound hX hb hqq hl0 hp hF (β := β0) hV hB hI hS (fun ρ' ha t ht => ?_) (fun h => hnew (hq2 h)) (fun v w' hfin hk hbl => ?_)
        · exact ((g ρ' ha β0 hβ0).2.2.2 t _).1 (hT ρ' ha β0 hβ0 t (operand_looks ht))
        · refine hK v w' (fun ρ' ha' => ?_) hk (fun hq' => hbl (hq1 hq'))
          rw [e2, e1]
          refine ⟨(hfin ρ' ha').2, fun β hβ => ?_⟩
          have hVβ := (hw β hβ).1 hwt
          unfold resT
          split
          · exact (hfin ρ' ha').1
          · exact ⟨fun _ => (hfin ρ' ha').1, fun hn => absurd hVβ hn⟩
      rcases evAnd_some hand with ⟨r0, hb, er⟩ | ⟨hq0, hc, _, r0, hb, er⟩
      · subst er
        by_cases hV : V β0 conds
        · exact run _ r0 (by rcases hq with hq | hq; exact .inl (by simp [hq]); exact .inr hq) (fun h => by simp [h]) (fun h => by cases q <;> simp_all) rfl rfl hb (wrapObs_sound (hCβ β0 hβ0) hV hl) hV
        · have hwt : Region.wanted o (yielded ⟨os⟩ a.tmps) = false := by
            cases hw' : Region.wanted o (yielded ⟨os⟩ a.tmps)
            · rfl
            · exact absurd ((hw β0 hβ0).1 hw') hV
          have hcne : conds ≠ [] := fun e => by subst e; exact hV (V_nil _)
          have hq1 : (q || hasC conds) = true := by
            cases conds with
            | nil => exact absurd rfl hcne
            | cons _ _ => simp [hasC]
          rw [hq1] at hb
          obtain ⟨e1, e2, e3⟩ := evBody_quiet hb
          rw [if_neg (by rw [hwt]; simp)]
          refine ⟨about_Fl, ?_⟩
          refine hK undef w (fun ρ' ha => ⟨?_, fun β hβ => ?_⟩) (Keeps.refl _ _ _) (fun _ => Below.refl _ _)
          · show Sim X.P B M ρ' r0.h w
            rw [e1]
            exact hS ρ' ha
          · unfold resT
            split
            · exact absurd rfl hcne
            · refine ⟨fun hv => ?_, fun _ => rfl⟩
              have := (hw β hβ).2 hv
              rw [hwt] at this
              cases this
      · subst er
        have hlay : layOp o.op = true := hq.elim (fun h => by rw [hq0] at h; cases h) id
        exact run false r0 (.inr hlay) (fun h => by rw [hq0] at h; cases h) (fun _ => hq0) rfl rfl hb hl.2 (condH_of (hCβ β0 hβ0) hl.1)

/-! Calls that read no memory and lay one block. -/

def rnO (σ : Ren) : AObj → Option AObj
  | .cells cs t => some (.cells (rnL σ cs) t)
  | .row e sz (.vals xs) k => some (.row e sz (.vals (rnL σ xs)) (σ.to k))
  | .row e sz (.ints k' ns) k => some (.row e sz (.ints k' ns) (σ.to k))
  | _ => none

theorem ORep.rn {B : Nat} {M : Nat → Prop} {ρ : Num} {w : World} {ob : Option Nat} {o o' : AObj} {σ : Ren} (h : ORep B M (fun i => ρ (σ.to i)) w ob o) (hr : rnO σ o = some o') : ORep B M ρ w ob o' := by
  unfold rnO at hr
  split at hr
  · cases hr
    obtain ⟨b, h1, h2, h3⟩ := h
    exact ⟨b, h1, by rw [rvL_rn]; exact h2, h3⟩
  · cases hr
    rcases h with ⟨h1, h2⟩ | ⟨b, cap, cur, h1, h2, h3, h4, h5, h6, h7, h8⟩
    · rename_i xs _
      refine .inl ⟨h1, ?_⟩
      have : xs = [] := h2
      subst this
      rfl
    · refine .inr ⟨b, cap, cur, h1, h2, h3, h4, h5, h6, ?_, ?_⟩
      · show (rnL σ _).length ≤ _
        rw [rnL_length]; exact h7
      · show cur.toList.take (rnL σ _).length = rvL ρ (rnL σ _)
        rw [rnL_length, rvL_rn]; exact h8
  · cases hr
    rcases h with ⟨h1, h2⟩ | ⟨b, cap, cur, h1, h2, h3, h4, h5, h6, h7, h8⟩
    · exact .inl ⟨h1, h2⟩
    · refine .inr ⟨b, cap, cur, h1, h2, h3, h4, h5, h6, h7, ?_⟩
      rename_i k' ns _
      have e : ∀ (ρ' : Num), rvL ρ' (ns.map (Value.int k')) = ns.map (Value.int k') := fun ρ' => by rw [rvL_eq, List.map_map]; exact List.map_congr_left (fun x _ => by simp [rv])
      show cur.toList.take (ns.map (Value.int k')).length = rvL ρ (ns.map (Value.int k'))
      rw [e]
      have h8 : cur.toList.take (ns.map (Value.int k')).length = rvL _ (ns.map (Value.int k')) := h8
      rw [e] at h8
      exact h8
  · cases hr

def evCallL (X : Cx) (o : Oper) (conds : List (Nat × Bool)) (tmps : List TV) (n : Nat) : Option (Value × AObj × List Prop) :=
  match globsOk X.P o with
  | false => none
  | true => match o.op with
    | .call c => match c.callee with
      | .value f => match evo tmps conds f, evArgs (evo tmps conds) c.args.toList with
        | some (.func (.func fid) ⟨first⟩ ⟨cap⟩), some args => match pureL (first ++ args ++ cap) with
          | false => none
          | true => match X.cl fid (first ++ args ++ cap) [] X.P.globals.size [] with
            | some ⟨v, [(j, ob)], n', obs, _⟩ => match Nat.beq j X.P.globals.size && Nat.ble n' (X.P.globals.size + 2), rnO [(X.P.globals.size, n), (X.P.globals.size + 1, n + 1)] ob with
              | true, some ob' => some (rn [(X.P.globals.size, n), (X.P.globals.size + 1, n + 1)] v, ob', obs)
              | _, _ => none
            | _ => none
        | _, _ => none
      | _ => none
    | _ => none

theorem evCallL_sound {X : Cx} {J : Inv X.P} (hX : CxOk X J) {o : Oper} {conds : List (Nat × Bool)} {tmps : List TV} {n : Nat} {v0 : Value} {ob0 : AObj} {obs : List Prop} (h : evCallL X o conds tmps n = some (v0, ob0, obs)) (hl : allP obs)
    {B : Nat} {M : Nat → Prop} {F : Num → Prop} {ρ : Num} (hF : F ρ) {β : Nat → Bool} (hc : V β conds) {a : Act} {w : World} (hB : B ≤ w.heap.size) (hI : J.I w) {H : Heap}
    (hS : ∀ ρ', F ρ' → Sim X.P B M ρ' H w) (hT : ∀ ρ', F ρ' → ∀ t, .tmp t ∈ o.op.operands.toList → TRel ρ' β (getT tmps t) (a.tmps.getD t undef))
    {rb : Option Nat} {K : Act → World → Prop} {Q : Exit → Act → World → Prop}
    (hK : ∀ v w' (b c : Option Nat), (∀ ρ', F ρ' → ρ' n = b → ρ' (n + 1) = c → v = rv ρ' v0 ∧ Sim X.P B M ρ' ((n, ob0) :: H) w') → Keeps B M w w' → K (a.put o.dst v) w') :
    o.wpIn (Fl rb) 0 X.P a w K Q := by
  unfold evCallL at h
  split at h
  case h_1 => cases h
  rename_i hglob
  have hglob' : ∀ x ∈ o.op.operands.toList, ∀ g, x = .global g → g < X.P.globals.size := by
    intro x hx g e
    subst e
    have := List.all_eq_true.1 hglob _ hx
    simpa [Nat.blt_eq] using this
  split at h
  case h_2 => cases h
  rename_i c ho
  split at h
  case h_2 => cases h
  rename_i f hcal
  split at h
  case h_2 => cases h
  rename_i fid first cap args hf hargs
  split at h
  case h_1 => cases h
  rename_i hpl
  split at h
  case h_2 => cases h
  rename_i v j ob n' obs' ds' hcl
  split at h
  case h_2 => cases h
  rename_i ob' hjn hrn
  cases h
  simp only [Bool.and_eq_true, Nat.beq_eq, Nat.ble_eq] at hjn
  obtain ⟨hj, hn'⟩ := hjn
  subst hj
  have hev : ∀ x ∈ o.op.operands.toList, ∀ y, evo tmps conds x = some y → a.eval x = rv ρ y := fun x hx y hy =>
    evo_sound (hS ρ hF) hc hy (fun t e => hT ρ hF t (e ▸ hx)) (hglob' x hx)
  have hfm : f ∈ o.op.operands.toList := by rw [ho]; simp [Op.operands, Call.operands, hcal]
  have ham : ∀ x ∈ c.args.toList, x ∈ o.op.operands.toList := fun x hx => by rw [ho]; simp [Op.operands, Call.operands, hcal]; exact .inr (by simpa using hx)
  obtain ⟨hnn, hent, hcalls⟩ := hX.cl _ _ _ _ _ _ hcl hl
  have hrun : (execOp a.eval o).run X.P w = .ok (.enter fid ⟨first ++ args ++ cap⟩) w := by
    have e1 := hev f hfm _ hf
    have e2 := evArgs_sound (a := a.eval) (ρ := ρ) c.args.toList args (fun x hx y hy => hev x (ham x hx) y hy) hargs
    have e3 : c.args.map a.eval = ⟨rvL ρ args⟩ := by apply Array.ext'; simpa using e2
    simp only [execOp, ho, resolve, hcal, e1, e3, rv, rvA, rFn, Deferred.ofValue, pure_bind, invoke]
    have e4 : ((⟨rvL ρ first⟩ : Array Value) ++ (⟨rvL ρ args⟩ : Array Value) ++ (⟨rvL ρ cap⟩ : Array Value)) = ⟨first ++ args ++ cap⟩ := by
      apply Array.ext'
      simp only [Array.toList_append]
      rw [← rvL_pure ρ _ hpl]
      simp [rvL_eq]
    rw [e4]
    exact hent _ _
  have hglo : ∀ ρ', F ρ' → ∀ g, g < X.P.globals.size → ρ' g = some g := fun ρ' ha => (hS ρ' ha).glob
  let ρ0 : Num := fun i => if i < X.P.globals.size then some i else none
  have hp' : Par X.P w.heap.size (fun _ => False) := ⟨J.room w hI, fun _ _ h => h⟩
  have hc1 := hcalls w.heap.size (fun _ => False) ρ0 w (first ++ args ++ cap) hp' (Nat.le_refl _) hI (fun ρ' ha => ⟨⟨fun g hg => by rw [ha g hg]; simp [ρ0, hg], fun i o h => by simp [Heap.get] at h, fun i j o o' h => by simp [Heap.get] at h⟩, (rvL_pure ρ' _ hpl).symm⟩)
  refine wpIn_Fl (by rw [ho]; intro c hc; cases hc) ?_
  rw [hrun, Oper.uponIn_enter]
  refine ⟨fun h => (by cases h), callsIn_Fl (hc1.mono fun e w' hh => ?_)⟩
  obtain ⟨ρ1, v1, ha1, he, hk, hfin⟩ := hh
  subst he
  have hbel : Below w.heap.size w w' := hk.below
  refine hK v1 w' (ρ1 X.P.globals.size) (ρ1 (X.P.globals.size + 1)) (fun ρ' ha hb hc' => ?_) (Keeps.of_below hbel hB)
  let σ : Ren := [(X.P.globals.size, n), (X.P.globals.size + 1, n + 1)]
  have hσ : Agree n' ρ1 (fun i => ρ' (σ.to i)) := by
    intro i hi
    show ρ' (σ.to i) = ρ1 i
    by_cases e1 : i = X.P.globals.size
    · subst e1; rw [show σ.to X.P.globals.size = n by simp [σ, Ren.to]]; exact hb
    · by_cases e2 : i = X.P.globals.size + 1
      · subst e2
        rw [show σ.to (X.P.globals.size + 1) = n + 1 by simp [σ, Ren.to, beq_false (show X.P.globals.size ≠ X.P.globals.size + 1 by omega)]]
        exact hc'
      · have hlt : i < X.P.globals.size := by omega
        rw [show σ.to i = i by simp [σ, Ren.to, beq_false (Ne.symm e1), beq_false (Ne.symm e2)], hglo ρ' ha i hlt, ha1 i hlt]
        simp [ρ0, hlt]
  obtain ⟨g1, g2⟩ := hfin _ hσ
  refine ⟨by rw [g1, rv_rn], ?_⟩
  have hold := (hS ρ' ha).below hbel
  have hnewO : ORep w.heap.size (fun _ => False) ρ' w' (ρ' n) ob0 := by
    have := g2.obj X.P.globals.size ob (by rw [Heap.get_cons, if_pos rfl])
    have := this.rn (σ := σ) hrn
    rw [show σ.to X.P.globals.size = n by simp [σ, Ren.to]] at this
    exact this
  have hup : ∀ b, ρ' n = some b → w.heap.size ≤ b := by
    intro b hb'
    rw [hb'] at hnewO
    unfold rnO at hrn
    split at hrn
    · cases hrn
      obtain ⟨b2, h1, _, h3⟩ := hnewO
      cases h1
      exact h3.elim id False.elim
    · cases hrn
      rcases hnewO with ⟨h1, _⟩ | ⟨b2, _, _, h1, _, _, h4, _⟩
      · cases h1
      · cases h1; exact h4
    · cases hrn
      rcases hnewO with ⟨h1, _⟩ | ⟨b2, _, _, h1, _, _, h4, _⟩
      · cases h1
      · cases h1; exact h4
    · cases hrn
  have hnew2 : ORep B M ρ' w' (ρ' n) ob0 := by
    unfold rnO at hrn
    split at hrn
    · cases hrn
      obtain ⟨b2, h1, h2, h3⟩ := hnewO
      exact ⟨b2, h1, h2, .inl (h3.elim (fun h => by omega) False.elim)⟩
    · cases hrn
      rcases hnewO with h1 | ⟨b2, c2, c3, h1, h2, h3, h4, h5⟩
      · exact .inl h1
      · exact .inr ⟨b2, c2, c3, h1, h2, h3, by omega, h5⟩
    · cases hrn
      rcases hnewO with h1 | ⟨b2, c2, c3, h1, h2, h3, h4, h5⟩
      · exact .inl h1
      · exact .inr ⟨b2, c2, c3, h1, h2, h3, by omega, h5⟩
    · cases hrn
  refine ⟨hold.glob, fun i o' hi => ?_, fun i j oi oj hi hr hj hij hne => ?_⟩
  · rw [Heap.get_cons] at hi
    split at hi
    · rename_i e; subst e; cases hi; exact hnew2
    · exact hold.obj i o' hi
  · have low : ∀ k ok, H.get k = some ok → ∀ b, ρ' k = some b → b < w.heap.size := fun k ok hk b hb' => by
      have := (hS ρ' ha).obj k ok hk
      rw [hb'] at this
      exact this.lt
    rw [Heap.get_cons] at hi hj
    split at hi <;> split at hj
    · rename_i e1 e2; exact absurd (e1.symm.trans e2) hij
    · rename_i e1 e2; subst e1
      intro e
      cases hq : ρ' n with
      | none => exact hne hq
      | some b =>
        have h1 := hup b hq
        have h2 := low j oj hj b (by rw [← e]; exact hq)
        omega
    · rename_i e1 e2; subst e2
      intro e
      cases hq : ρ' i with
      | none => exact hne hq
      | some b =>
        have h1 := hup b (by rw [← e]; exact hq)
        have h2 := low i oi hi b hq
        omega
    · exact hold.inj i j oi oj hi hr hj hij hne

def evLay (X : Cx) (os : List Oper) (o : Oper) (tmps : List TV) (n : Nat) (kv : KV) : Option (List TV × KV × TV × AObj × List Prop) :=
  match evGuard X.auto os o tmps kv with
  | some (false, tmps', kv', conds) => match evCallL X o conds tmps' n with
    | none => none
    | some (v, ob, obs) => some (tmps', kv', resT conds v, ob, match hasC conds with
      | true => condH kv' conds :: obs
      | false => obs)
  | _ => none

theorem evLay_some {X : Cx} {os : List Oper} {o : Oper} {tmps tmps' : List TV} {n : Nat} {kv kv' : KV} {tv : TV} {ob : AObj} {obs : List Prop} (h : evLay X os o tmps n kv = some (tmps', kv', tv, ob, obs)) :
    ∃ conds v obs0, evGuard X.auto os o tmps kv = some (false, tmps', kv', conds) ∧ evCallL X o conds tmps' n = some (v, ob, obs0) ∧ tv = resT conds v ∧ (allP obs → allP obs0 ∧ condH kv' conds) := by
  unfold evLay at h
  split at h
  case h_2 => cases h
  rename_i conds hg
  split at h
  · cases h
  rename_i v ob' obs0 hc
  cases h
  refine ⟨conds, v, obs0, hg, hc, rfl, fun hl => ?_⟩
  cases conds with
  | nil => exact ⟨hl, trivial⟩
  | cons x r => exact ⟨hl.2, hl.1⟩

theorem evLay_sound {X : Cx} {J : Inv X.P} (hX : CxOk X J) {os : List Oper} {i : Nat} {o : Oper} (hi : os[i]? = some o) {tmps tmps' : List TV} {n : Nat} {kv kv' : KV} {tv : TV} {ob0 : AObj} {obs : List Prop}
    (h : evLay X os o tmps n kv = some (tmps', kv', tv, ob0, obs)) (hl : allP obs)
    {B : Nat} {M : Nat → Prop} {F : Num → Prop} {ρ : Num} (hF : F ρ) {Cβ : (Nat → Bool) → Prop} (hne : ∃ β, Cβ β) (hCβ : ∀ β, Cβ β → KVok kv' β) {a : Act} {w : World} (hB : B ≤ w.heap.size) (hI : J.I w) {H : Heap}
    (hS : ∀ ρ', F ρ' → Sim X.P B M ρ' H w) (hT : ∀ ρ', F ρ' → ∀ β, Cβ β → ∀ t ∈ looks os o, TRel ρ' β (getT tmps t) (a.tmps.getD t undef))
    {rb : Option Nat} {K : Act → World → Prop} {Q : Exit → Act → World → Prop}
    (hK : ∀ v w' (b c : Option Nat), (∀ ρ', F ρ' → ρ' n = b → ρ' (n + 1) = c → Sim X.P B M ρ' ((n, ob0) :: H) w' ∧ ∀ β, Cβ β → TRel ρ' β tv v) → Keeps B M w w' → K (a.put o.dst v) w') :
    wpOpIn (Fl rb) 0 X.P ⟨os⟩ Q i K a w := by
  have hoi : (⟨os⟩ : Array Oper)[i]? = some o := by simpa using hi
  unfold wpOpIn
  rw [hoi]
  simp only []
  obtain ⟨β0, hβ0⟩ := hne
  obtain ⟨conds, v0, obs0, hg, hc, etv, hobs⟩ := evLay_some h
  obtain ⟨hl0, hcond⟩ := hobs hl
  have hV : V β0 conds := condH_of (hCβ β0 hβ0) hcond
  have g : ∀ ρ', F ρ' → ∀ β, Cβ β → _ := fun ρ' ha β hβ => evGuard_sound hg (hCβ β hβ) (fun t ht _ => hT ρ' ha β hβ t ht)
  have hw : ∀ β, Cβ β → (Region.wanted o (yielded ⟨os⟩ a.tmps) = true ↔ V β conds) := fun β hβ => (g ρ hF β hβ).2.2.1 rfl
  have hwt := (hw β0 hβ0).2 hV
  rw [if_pos hwt]
  refine evCallL_sound hX hc hl0 hF hV hB hI hS (fun ρ' ha t ht => ?_) (fun v w' b c hfin hk => ?_)
  · exact ((g ρ' ha β0 hβ0).2.2.2 t _).1 (hT ρ' ha β0 hβ0 t (operand_looks ht))
  · refine hK v w' b c (fun ρ' ha hb hc' => ?_) hk
    obtain ⟨g1, g2⟩ := hfin ρ' ha hb hc'
    refine ⟨g2, fun β hβ => ?_⟩
    have hVβ := (hw β hβ).1 hwt
    rw [etv]
    unfold resT
    split
    · exact g1
    · exact ⟨fun _ => g1, fun hn => absurd hVβ hn⟩

/-! What an operation waits for, near and far. -/

def predsAt (os : List Oper) (p : Nat) : List Nat := match os[p]? with
  | some o => predsOf o
  | none => []

def closeP (os : List Oper) : Nat → List Nat → List Nat → List Nat
  | 0, _, acc => acc
  | f + 1, work, acc => match work with
    | [] => acc
    | p :: r => match memN p acc with
      | true => closeP os f r acc
      | false => closeP os f (predsAt os p ++ r) (p :: acc)

theorem closeP_in {os : List Oper} {L : Nat → Prop} (hL : ∀ p, L p → ∀ e ∈ predsAt os p, L e) : ∀ (f : Nat) (work acc : List Nat), (∀ p ∈ work, L p) → (∀ p ∈ acc, L p) → ∀ p ∈ closeP os f work acc, L p
  | 0, _, acc, _, ha => by simpa only [closeP] using ha
  | f + 1, work, acc, hw, ha => by
    unfold closeP
    split
    · exact ha
    · rename_i p r
      split
      · exact closeP_in hL f r acc (fun q hq => hw q (by simp [hq])) ha
      · refine closeP_in hL f _ _ (fun q hq => ?_) (fun q hq => ?_)
        · rcases List.mem_append.1 hq with hq | hq
          · exact hL p (hw p (by simp)) q hq
          · exact hw q (by simp [hq])
        · rcases List.mem_cons.1 hq with rfl | hq
          · exact hw q (by simp)
          · exact ha q hq

def reach (os : List Oper) (o : Oper) : List Nat := closeP os 400 (predsOf o) []

/-- Memory as one sees it who sees the blocks of the operations f alone. -/
def visH (n0 : Nat) (f : Nat → Bool) : Heap → Heap → Heap
  | [], H0 => H0
  | (k, ob) :: r, H0 => match f k with
    | true => (n0 + 2 * k, ob) :: visH n0 f r H0
    | false => visH n0 f r H0

def lowKeys (n0 : Nat) : Heap → Bool
  | [] => true
  | (j, _) :: r => Nat.blt j n0 && lowKeys n0 r

theorem lowKeys_get {n0 : Nat} : ∀ {H : Heap}, lowKeys n0 H = true → ∀ {j : Nat} {o : AObj}, H.get j = some o → j < n0
  | [], _, j, o, h => by simp [Heap.get] at h
  | (k, ob) :: r, hk, j, o, h => by
    simp only [lowKeys, Bool.and_eq_true, Nat.blt_eq] at hk
    rw [Heap.get_cons] at h
    split at h
    · rename_i e; subst e; exact hk.1
    · exact lowKeys_get hk.2 h

theorem visH_low {n0 : Nat} {f : Nat → Bool} {H0 : Heap} : ∀ {la : Heap} {j : Nat}, j < n0 → (visH n0 f la H0).get j = H0.get j
  | [], j, _ => rfl
  | (k, ob) :: r, j, h => by
    unfold visH
    split
    · rw [Heap.get_cons, if_neg (by omega)]; exact visH_low h
    · exact visH_low h

theorem visH_high {n0 : Nat} {f : Nat → Bool} {H0 : Heap} (hlow : lowKeys n0 H0 = true) : ∀ {la : Heap} {k : Nat}, (visH n0 f la H0).get (n0 + 2 * k) = if f k = true then la.get k else none
  | [], k => by
    have : H0.get (n0 + 2 * k) = none := by
      cases h : H0.get (n0 + 2 * k) with
      | none => rfl
      | some o => have := lowKeys_get hlow h; omega
    show H0.get (n0 + 2 * k) = _
    rw [this]
    split <;> rfl
  | (i, ob) :: r, k => by
    unfold visH
    split
    · rename_i hf
      rw [Heap.get_cons, Heap.get_cons, visH_high hlow (la := r)]
      by_cases e : i = k
      · subst e; rw [if_pos rfl, if_pos hf, if_pos rfl]
      · rw [if_neg (by omega), if_neg e]
    · rename_i hf
      rw [visH_high hlow (la := r), Heap.get_cons]
      by_cases e : i = k
      · subst e; rw [hf]; simp
      · rw [if_neg e]

theorem visH_odd {n0 : Nat} {f : Nat → Bool} {H0 : Heap} (hlow : lowKeys n0 H0 = true) : ∀ {la : Heap} {k : Nat}, (visH n0 f la H0).get (n0 + 2 * k + 1) = none
  | [], k => by
    cases h : H0.get (n0 + 2 * k + 1) with
    | none => exact h
    | some o => have := lowKeys_get hlow h; omega
  | (i, ob) :: r, k => by
    unfold visH
    split
    · rw [Heap.get_cons, if_neg (by omega)]; exact visH_odd hlow
    · exact visH_odd hlow

/-- A number from n0 on is an operation's, or its capacity's. -/
theorem visH_cases {n0 : Nat} {f : Nat → Bool} {la H0 : Heap} (hlow : lowKeys n0 H0 = true) {j : Nat} {o : AObj} (h : (visH n0 f la H0).get j = some o) : (j < n0 ∧ H0.get j = some o) ∨ ∃ k, j = n0 + 2 * k ∧ f k = true ∧ la.get k = some o := by
  rcases Nat.lt_or_ge j n0 with hlt | hge
  · rw [visH_low hlt] at h; exact .inl ⟨hlt, h⟩
  · refine .inr ⟨(j - n0) / 2, ?_, ?_⟩
    · rcases Nat.mod_two_eq_zero_or_one (j - n0) with e | e
      · omega
      · exfalso
        have : j = n0 + 2 * ((j - n0) / 2) + 1 := by omega
        rw [this, visH_odd hlow] at h
        cases h
    · rcases Nat.mod_two_eq_zero_or_one (j - n0) with e | e
      · have : j = n0 + 2 * ((j - n0) / 2) := by omega
        rw [this, visH_high hlow] at h
        split at h
        · rename_i hf; rw [← this] at *; exact ⟨hf, h⟩
        · cases h
      · exfalso
        have : j = n0 + 2 * ((j - n0) / 2) + 1 := by omega
        rw [this, visH_odd hlow] at h
        cases h

structure HSt where
  tm : List TV
  la : Heap
  obs : List Prop
  kv : KV

def laid (i : Nat) : Heap → Heap → Heap
  | [], la => la
  | (_, ob) :: _, la => (i, ob) :: la

/-- One of the first operations. 'c': calls may lay blocks. -/
def hdOp (X : Cx) (c : Bool) (os : List Oper) (o : Oper) (n0 i : Nat) (H0 : Heap) (ds : List Bool) (tm : List TV) (la : Heap) (kv : KV) : Option (List TV × KV × TV × Heap × List Prop) :=
  match layOp o.op with
  | true => match evEff X false os o tm [] (n0 + 2 * i) ds kv with
    | none => none
    | some (tm', kv', tv, ⟨_, h, _, ob', _⟩) => some (tm', kv', tv, laid i h la, ob')
  | false => match evEff X true os o tm (visH n0 (fun k => memN k (reach os o)) la H0) (n0 + 2 * i) ds kv with
    | some (tm', kv', tv, ⟨_, _, _, ob', _⟩) => some (tm', kv', tv, la, ob')
    | none => match c with
      | false => none
      | true => match evLay X os o tm (n0 + 2 * i) kv with
        | none => none
        | some (tm', kv', tv, ob, ob') => some (tm', kv', tv, (i, ob) :: la, ob')

theorem hdOp_cases {X : Cx} {c : Bool} {os : List Oper} {o : Oper} {n0 i : Nat} {H0 : Heap} {ds : List Bool} {tm tm' : List TV} {la la' : Heap} {kv kv' : KV} {tv : TV} {ob' : List Prop} (h : hdOp X c os o n0 i H0 ds tm la kv = some (tm', kv', tv, la', ob')) :
    (∃ r, evEff X true os o tm (visH n0 (fun k => memN k (reach os o)) la H0) (n0 + 2 * i) ds kv = some (tm', kv', tv, r) ∧ r.obs = ob' ∧ layOp o.op = false ∧ la' = la) ∨
    (∃ r, evEff X false os o tm [] (n0 + 2 * i) ds kv = some (tm', kv', tv, r) ∧ r.obs = ob' ∧ layOp o.op = true ∧ la' = laid i r.h la) ∨
    (c = true ∧ layOp o.op = false ∧ ∃ ob, evLay X os o tm (n0 + 2 * i) kv = some (tm', kv', tv, ob, ob') ∧ la' = (i, ob) :: la) := by
  unfold hdOp at h
  split at h
  · rename_i hlay
    split at h
    · cases h
    · rename_i he
      cases h
      exact .inr (.inl ⟨_, he, rfl, hlay, rfl⟩)
  · rename_i hlay
    split at h
    · rename_i he
      cases h
      exact .inl ⟨_, he, rfl, hlay, rfl⟩
    · split at h
      · cases h
      · split at h
        · cases h
        · rename_i he
          cases h
          exact .inr (.inr ⟨rfl, hlay, _, he, rfl⟩)

theorem hdOp_ex {X : Cx} {c : Bool} {os : List Oper} {o : Oper} {n0 i : Nat} {H0 : Heap} {ds : List Bool} {tm tm' : List TV} {la la' : Heap} {kv kv' : KV} {tv : TV} {ob' : List Prop} (h : hdOp X c os o n0 i H0 ds tm la kv = some (tm', kv', tv, la', ob'))
    (hk : ∃ β, KVok kv β) : (∃ β, KVok kv' β) ∧ (∀ β, KVok kv' β → KVok kv β) ∧ tm'.length = tm.length := by
  rcases hdOp_cases h with ⟨r, he, _⟩ | ⟨r, he, _⟩ | ⟨_, _, ob, he, _⟩
  · exact evEff_ex he hk
  · exact evEff_ex he hk
  · obtain ⟨conds, v, obs0, hg, _⟩ := evLay_some he
    exact evGuard_ex hg hk

theorem evEff_slot' {X : Cx} {q : Bool} {os : List Oper} {o : Oper} {tmps tmps' : List TV} {H : Heap} {n : Nat} {ds : List Bool} {kv kv' : KV} {tv : TV} {r : CR}
    (h : evEff X q os o tmps H n ds kv = some (tmps', kv', tv, r)) {ρ : Num} {β : Nat → Bool} (hk : KVok kv' β) (t : Nat) (x : Value) : TRel ρ β (getT tmps t) x ↔ TRel ρ β (getT tmps' t) x := by
  rw [evEff_eq] at h
  split at h
  · cases h
  · rename_i hg; cases h; exact evGuard_slot hg hk t x
  · rename_i hg
    split at h
    · cases h
    · cases h; exact evGuard_slot hg hk t x

theorem hdOp_slot {X : Cx} {c : Bool} {os : List Oper} {o : Oper} {n0 i : Nat} {H0 : Heap} {ds : List Bool} {tm tm' : List TV} {la la' : Heap} {kv kv' : KV} {tv : TV} {ob' : List Prop} (h : hdOp X c os o n0 i H0 ds tm la kv = some (tm', kv', tv, la', ob'))
    {ρ : Num} {β : Nat → Bool} (hk : KVok kv' β) (t : Nat) (x : Value) : TRel ρ β (getT tm t) x ↔ TRel ρ β (getT tm' t) x := by
  rcases hdOp_cases h with ⟨r, he, _⟩ | ⟨r, he, _⟩ | ⟨_, _, ob, he, _⟩
  · exact evEff_slot' he hk t x
  · exact evEff_slot' he hk t x
  · obtain ⟨conds, v, obs0, hg, _⟩ := evLay_some he
    exact evGuard_slot hg hk t x

/-- The first i operations. -/
def evHd (X : Cx) (c : Bool) (os : List Oper) (n0 : Nat) (H0 : Heap) (ds : List Bool) (tm0 : List TV) (ob0 : List Prop) : Nat → Option HSt
  | 0 => some ⟨tm0, [], ob0, []⟩
  | i + 1 => match evHd X c os n0 H0 ds tm0 ob0 i with
    | none => none
    | some ⟨tm, la, ob, kv⟩ => match os[i]? with
      | none => none
      | some o => match hdOp X c os o n0 i H0 ds tm la kv with
        | none => none
        | some (tm', kv', tv, la', ob') => some ⟨setT tm' o.dst tv, la', ob' ++ ob, kv'⟩

theorem evHd_succ {X : Cx} {c : Bool} {os : List Oper} {n0 : Nat} {H0 : Heap} {ds : List Bool} {tm0 : List TV} {ob0 : List Prop} {i : Nat} {s' : HSt} (h : evHd X c os n0 H0 ds tm0 ob0 (i + 1) = some s') :
    ∃ s o tm' tv ob', evHd X c os n0 H0 ds tm0 ob0 i = some s ∧ os[i]? = some o ∧ hdOp X c os o n0 i H0 ds s.tm s.la s.kv = some (tm', s'.kv, tv, s'.la, ob') ∧ s'.tm = setT tm' o.dst tv ∧ s'.obs = ob' ++ s.obs := by
  simp only [evHd] at h
  split at h
  · cases h
  rename_i tm la ob kv hs
  split at h
  · cases h
  rename_i o ho
  split at h
  · cases h
  rename_i he
  cases h
  exact ⟨_, o, _, _, _, hs, ho, he, rfl, rfl⟩

theorem evHd_some {X : Cx} {c : Bool} {os : List Oper} {n0 : Nat} {H0 : Heap} {ds : List Bool} {tm0 : List TV} {ob0 : List Prop} : ∀ {j i : Nat} {r : HSt}, i ≤ j → evHd X c os n0 H0 ds tm0 ob0 j = some r → ∃ q, evHd X c os n0 H0 ds tm0 ob0 i = some q
  | 0, i, r, hij, h => by
    obtain rfl : i = 0 := by omega
    exact ⟨r, h⟩
  | j + 1, i, r, hij, h => by
    by_cases e : i = j + 1
    · subst e; exact ⟨r, h⟩
    · obtain ⟨s, o, _, _, _, hs, _⟩ := evHd_succ h
      exact evHd_some (by omega) hs

theorem evHd_obs {X : Cx} {c : Bool} {os : List Oper} {n0 : Nat} {H0 : Heap} {ds : List Bool} {tm0 : List TV} {ob0 : List Prop} : ∀ {j i : Nat} {si sj : HSt}, i ≤ j → evHd X c os n0 H0 ds tm0 ob0 i = some si → evHd X c os n0 H0 ds tm0 ob0 j = some sj → allP sj.obs → allP si.obs
  | 0, i, si, sj, hij, h1, h2, hl => by
    obtain rfl : i = 0 := by omega
    rw [h1] at h2; cases h2; exact hl
  | j + 1, i, si, sj, hij, h1, h2, hl => by
    by_cases e : i = j + 1
    · subst e; rw [h1] at h2; cases h2; exact hl
    · obtain ⟨s, o, _, _, _, hs, _, _, _, ho⟩ := evHd_succ h2
      rw [ho] at hl
      exact evHd_obs (by omega) h1 hs ((allP_append _ _).1 hl).2

theorem evHd_keys {X : Cx} {c : Bool} {os : List Oper} {n0 : Nat} {H0 : Heap} {ds : List Bool} {tm0 : List TV} {ob0 : List Prop} : ∀ {i : Nat} {s : HSt}, evHd X c os n0 H0 ds tm0 ob0 i = some s → (∃ β, KVok s.kv β) ∧ s.tm.length = tm0.length
  | 0, s, h => by simp only [evHd] at h; cases h; exact ⟨⟨fun _ => false, fun p hp => by cases hp⟩, rfl⟩
  | i + 1, s, h => by
    obtain ⟨s1, o, _, _, _, hs, _, he, h1, _⟩ := evHd_succ h
    obtain ⟨e1, e2⟩ := evHd_keys hs
    obtain ⟨g1, _, g3⟩ := hdOp_ex he e1
    exact ⟨g1, by rw [h1, setT_length]; omega⟩

theorem evHd_sub {X : Cx} {c : Bool} {os : List Oper} {n0 : Nat} {H0 : Heap} {ds : List Bool} {tm0 : List TV} {ob0 : List Prop} {β : Nat → Bool} : ∀ {j i : Nat} {si sj : HSt}, i ≤ j → evHd X c os n0 H0 ds tm0 ob0 i = some si → evHd X c os n0 H0 ds tm0 ob0 j = some sj → KVok sj.kv β → KVok si.kv β
  | 0, i, si, sj, hij, h1, h2, hk => by
    obtain rfl : i = 0 := by omega
    rw [h1] at h2; cases h2; exact hk
  | j + 1, i, si, sj, hij, h1, h2, hk => by
    by_cases e : i = j + 1
    · subst e; rw [h1] at h2; cases h2; exact hk
    · obtain ⟨s, o, _, _, _, hs, _, he, _⟩ := evHd_succ h2
      exact evHd_sub (by omega) h1 hs ((hdOp_ex he (evHd_keys hs).1).2.1 β hk)

theorem evHd_slot {X : Cx} {c : Bool} {os : List Oper} {n0 : Nat} {H0 : Heap} {ds : List Bool} {tm0 : List TV} {ob0 : List Prop} {ρ : Num} {β : Nat → Bool} {t : Nat} {r : Value} : ∀ {j i : Nat} {si sj : HSt}, i ≤ j → evHd X c os n0 H0 ds tm0 ob0 i = some si → evHd X c os n0 H0 ds tm0 ob0 j = some sj → KVok sj.kv β →
    (∀ k o, i ≤ k → k < j → os[k]? = some o → o.dst ≠ some t) → (TRel ρ β (getT si.tm t) r ↔ TRel ρ β (getT sj.tm t) r)
  | 0, i, si, sj, hij, h1, h2, _, _ => by
    obtain rfl : i = 0 := by omega
    rw [h1] at h2; cases h2; exact Iff.rfl
  | j + 1, i, si, sj, hij, h1, h2, hk, hw => by
    by_cases e : i = j + 1
    · subst e; rw [h1] at h2; cases h2; exact Iff.rfl
    · obtain ⟨s, o, tm', tv, ob', hs, hoj, he, e1, _⟩ := evHd_succ h2
      have hkv : KVok s.kv β := evHd_sub (by omega) hs h2 hk
      refine (evHd_slot (by omega) h1 hs hkv (fun k o' hk1 hk2 => hw k o' hk1 (by omega))).trans ?_
      rw [e1, setT_getT, if_neg (fun hh => hw j o (by omega) (by omega) hoj hh.1)]
      exact hdOp_slot he hk t r

theorem laid_get {i : Nat} {h la : Heap} {k : Nat} : (laid i h la).get k = if k = i ∧ h ≠ [] then (match h with | [] => none | (_, ob) :: _ => some ob) else la.get k := by
  cases h with
  | nil => simp [laid]
  | cons x r =>
    obtain ⟨j, ob⟩ := x
    simp only [laid, Heap.get_cons]
    by_cases e : i = k
    · subst e; simp
    · rw [if_neg e, if_neg (fun hh => e hh.1.symm)]

theorem hdOp_la {X : Cx} {c : Bool} {os : List Oper} {o : Oper} {n0 i : Nat} {H0 : Heap} {ds : List Bool} {tm tm' : List TV} {la la' : Heap} {kv kv' : KV} {tv : TV} {ob' : List Prop} (h : hdOp X c os o n0 i H0 ds tm la kv = some (tm', kv', tv, la', ob')) (k : Nat) (hk : k ≠ i) : la'.get k = la.get k := by
  rcases hdOp_cases h with ⟨r, _, _, _, e⟩ | ⟨r, _, _, _, e⟩ | ⟨_, _, ob, _, e⟩
  · rw [e]
  · rw [e, laid_get, if_neg (fun hh => hk hh.1)]
  · rw [e, Heap.get_cons, if_neg (Ne.symm hk)]

theorem evHd_low {X : Cx} {c : Bool} {os : List Oper} {n0 : Nat} {H0 : Heap} {ds : List Bool} {tm0 : List TV} {ob0 : List Prop} : ∀ {i : Nat} {s : HSt}, evHd X c os n0 H0 ds tm0 ob0 i = some s → ∀ k, i ≤ k → s.la.get k = none
  | 0, s, h, k, _ => by simp only [evHd] at h; cases h; rfl
  | i + 1, s, h, k, hk => by
    obtain ⟨s1, o, _, _, _, hs, _, he, _⟩ := evHd_succ h
    rw [hdOp_la he k (by omega)]
    exact evHd_low hs k (by omega)

theorem evHd_la {X : Cx} {c : Bool} {os : List Oper} {n0 : Nat} {H0 : Heap} {ds : List Bool} {tm0 : List TV} {ob0 : List Prop} : ∀ {j i : Nat} {si sj : HSt}, i ≤ j → evHd X c os n0 H0 ds tm0 ob0 i = some si → evHd X c os n0 H0 ds tm0 ob0 j = some sj → ∀ k, k < i → sj.la.get k = si.la.get k
  | 0, i, si, sj, hij, h1, h2, k, hk => by omega
  | j + 1, i, si, sj, hij, h1, h2, k, hk => by
    by_cases e : i = j + 1
    · subst e; rw [h1] at h2; cases h2; rfl
    · obtain ⟨s1, o, _, _, _, hs, _, he, _⟩ := evHd_succ h2
      rw [← evHd_la (by omega) h1 hs k hk]
      exact hdOp_la he k (by omega)

/-- Numbers of old, and those of the operations that are done. -/
def AgL (n0 m : Nat) (listed : Array Bool) (ρ ρ' : Num) : Prop := ∀ j, (j < n0 ∨ ∃ k, k < m ∧ Lst listed k ∧ (j = n0 + 2 * k ∨ j = n0 + 2 * k + 1)) → ρ' j = ρ j

def seen (listed : Array Bool) (k : Nat) : Bool := listed.getD k false

structure HalfL (X : Cx) (J : Inv X.P) (B : Nat) (M : Nat → Prop) (w0 : Bas) (os : List Oper) (m : Nat) (s0 : St) (a0 : Act) (ρ0 : Num) (sm : HSt) (listed : Array Bool) (a : Act) (w : World) : Prop where
  size : listed.size = os.length
  closed : ∀ j o, os[j]? = some o → Lst listed j → ∀ e ∈ predsOf o, Lst listed e
  late : ∀ t, m ≤ t → ¬ Lst listed t
  asize : a.tmps.size = s0.tmps.length
  defers : a.defers = w0.dfs
  base : B ≤ w.heap.size
  inv : J.I w
  keeps : Keeps B M w0.w w
  old : ∀ t, (∀ k o, k < m → Lst listed k → os[k]? = some o → o.dst ≠ some t) → a.tmps.getD t undef = a0.tmps.getD t undef
  rep : ∃ ρ, Agree s0.nid ρ0 ρ ∧ ∀ ρ', AgL s0.nid m listed ρ ρ' → Sim X.P B M ρ' (visH s0.nid (seen listed) sm.la s0.heap) w ∧
    ∀ k o d, k < m → Lst listed k → os[k]? = some o → o.dst = some d → ∀ β, KVok sm.kv β → TRel ρ' β (getT sm.tm d) (a.tmps.getD d undef)

def HSt.toSt (h : HSt) (s : St) (m : Nat) : St := ⟨h.tm, visH s.nid (fun _ => true) h.la s.heap, s.nid + 2 * m, s.ds, h.obs, s.lp, s.rd, s.mks, s.bs⟩

theorem halfL_all {X : Cx} {J : Inv X.P} {c : Bool} {B : Nat} {M : Nat → Prop} {w0 : Bas} {os : List Oper} {m : Nat} {s0 : St} {a0 : Act} {ρ : Num} {sm : HSt} (hm : evHd X c os s0.nid s0.heap s0.ds s0.tmps s0.obs m = some sm) (hlow : lowKeys s0.nid s0.heap = true)
    (h0 : ∀ ρ', Agree s0.nid ρ ρ' → ∀ β t, TRel ρ' β (getT s0.tmps t) (a0.tmps.getD t undef)) {listed : Array Bool} {a : Act} {w : World}
    (h : HalfL X J B M w0 os m s0 a0 ρ sm listed a w) (hρ0 : w0.n ≤ s0.nid ∧ Agree w0.n w0.ρ ρ) (hall : ∀ k, k < m → Lst listed k) : RepR X.P J B M w0 sm.kv (sm.toSt s0 m) a w := by
  obtain ⟨e4, e5⟩ := evHd_keys hm
  obtain ⟨ρ1, hρ1, hrep⟩ := h.rep
  refine ⟨by show _ = sm.tm.length; rw [e5]; exact h.asize, h.defers, h.base, h.inv, h.keeps, e4, ρ1, ⟨by show _ ≤ s0.nid + 2 * m; omega, hρ0.2.trans hρ1 hρ0.1⟩, fun ρ' ha => ?_⟩
  have ha : Agree (s0.nid + 2 * m) ρ1 ρ' := ha
  have hL : AgL s0.nid m listed ρ1 ρ' := fun j hj => ha j (by rcases hj with hj | ⟨k, hk, _, rfl | rfl⟩ <;> omega)
  obtain ⟨hsim, hnew⟩ := hrep ρ' hL
  refine ⟨hsim.less fun j o hj => ?_, fun β hβ t => ?_⟩
  · have hj : (visH s0.nid (fun _ => true) sm.la s0.heap).get j = some o := hj
    rcases visH_cases hlow hj with ⟨hlt, hj⟩ | ⟨k, rfl, _, hj⟩
    · rw [visH_low hlt]; exact hj
    · rw [visH_high hlow]
      have hkm : k < m := by
        rcases Nat.lt_or_ge k m with h' | h'
        · exact h'
        · rw [evHd_low hm k h'] at hj; cases hj
      rw [if_pos (show seen listed k = true from hall k hkm)]
      exact hj
  · by_cases hw : ∃ k o, k < m ∧ os[k]? = some o ∧ o.dst = some t
    · obtain ⟨k, o, hk, ho, hdst⟩ := hw
      exact hnew k o t hk (hall k hk) ho hdst β hβ
    · have hno : ∀ k o, k < m → os[k]? = some o → o.dst ≠ some t := fun k o hk ho e => hw ⟨k, o, hk, ho, e⟩
      rw [h.old t (fun k o hk _ ho => hno k o hk ho)]
      exact (evHd_slot (Nat.zero_le m) rfl hm hβ (fun k o _ hk ho => hno k o hk ho)).1 (h0 ρ' (hρ1.trans (fun i hi => ha i (by omega)) (Nat.le_refl _)) β t)

theorem halfL_step {X : Cx} {J : Inv X.P} (hX : CxOk X J) {c : Bool} {B : Nat} {M : Nat → Prop} (hp : Par X.P B M) {w0 : Bas} {os : List Oper} {m : Nat} (hd : Draws os m) {s0 : St} {a0 : Act} {ρ0 : Num} {sm : HSt} (hm : evHd X c os s0.nid s0.heap s0.ds s0.tmps s0.obs m = some sm) (hlow : lowKeys s0.nid s0.heap = true) (hl : allP sm.obs)
    (h0 : ∀ ρ', Agree s0.nid ρ0 ρ' → ∀ β t, TRel ρ' β (getT s0.tmps t) (a0.tmps.getD t undef)) {listed : Array Bool} {a : Act} {w : World}
    (h : HalfL X J B M w0 os m s0 a0 ρ0 sm listed a w) {i : Nat} (him : i < m) (hr : i ∈ Region.ready .any ⟨os⟩ listed) {rb : Option Nat} {K : Act → World → Prop} {Q : Exit → Act → World → Prop}
    (hK : ∀ a' w', HalfL X J B M w0 os m s0 a0 ρ0 sm (listed.setIfInBounds i true) a' w' → K a' w') : wpOpIn (Fl rb) 0 X.P ⟨os⟩ Q i K a w := by
  obtain ⟨⟨hi, hnl⟩, o, ho, hpre⟩ := ready_iff.1 hr
  obtain ⟨s1, hq1⟩ := evHd_some (i := i + 1) (by omega) hm
  obtain ⟨si, o', tmps', tv, ob', hsi, ho', he, e1, e3⟩ := evHd_succ hq1
  rw [ho] at ho'
  cases ho'
  have hobs := evHd_obs (by omega) hq1 hm hl
  rw [e3] at hobs
  obtain ⟨_, elen⟩ := evHd_keys hsi
  simp only [allP_append] at hobs
  have hsub : ∀ β, KVok sm.kv β → KVok s1.kv β := fun β hβ => evHd_sub (by omega) hq1 hm hβ
  have hsubi : ∀ β, KVok sm.kv β → KVok si.kv β := fun β hβ => evHd_sub (by omega) hsi hm hβ
  obtain ⟨ρ, hρ0, hrep⟩ := h.rep
  have hisz : i < listed.size := hi
  -- another numbering, new for operation i
  have hback : ∀ ρ1 : Num, (∀ j, j ≠ s0.nid + 2 * i → j ≠ s0.nid + 2 * i + 1 → ρ1 j = ρ j) → ∀ ρ', AgL s0.nid m (listed.setIfInBounds i true) ρ1 ρ' → AgL s0.nid m listed ρ ρ' := fun ρ1 hρ1 ρ' ha j hj => by
    have h1 := ha j (by
      rcases hj with hj | ⟨k, hk, hlk, hjk⟩
      · exact .inl hj
      · exact .inr ⟨k, hk, (lst_set hisz).2 (.inr hlk), hjk⟩)
    rw [h1]
    have hne : j ≠ s0.nid + 2 * i ∧ j ≠ s0.nid + 2 * i + 1 := by
      rcases hj with hj | ⟨k, hk, hlk, hjk⟩
      · omega
      · have : k ≠ i := fun e => by subst e; exact hnl hlk
        omega
    exact hρ1 j hne.1 hne.2
  have hnew : ∀ ρ1 ρ', AgL s0.nid m (listed.setIfInBounds i true) ρ1 ρ' → ρ' (s0.nid + 2 * i) = ρ1 (s0.nid + 2 * i) ∧ ρ' (s0.nid + 2 * i + 1) = ρ1 (s0.nid + 2 * i + 1) := fun ρ1 ρ' ha =>
    ⟨ha _ (.inr ⟨i, him, (lst_set hisz).2 (.inl rfl), .inl rfl⟩), ha _ (.inr ⟨i, him, (lst_set hisz).2 (.inl rfl), .inr rfl⟩)⟩
  -- what op i looks at is as the text's order has it
  have hT : ∀ ρ', AgL s0.nid m listed ρ ρ' → ∀ β, KVok sm.kv β → ∀ t ∈ looks os o, TRel ρ' β (getT si.tm t) (a.tmps.getD t undef) := by
    intro ρ' ha β hβ t ht
    obtain ⟨_, hnw⟩ := hrep ρ' ha
    by_cases hw : ∃ k ok, k < m ∧ Lst listed k ∧ os[k]? = some ok ∧ ok.dst = some t
    · obtain ⟨k, ok, hk, hlk, hok, hdk⟩ := hw
      have hki : k < i := by
        rcases hd.slot i o him ho t ht k ok hk hok hdk with e | e | e
        · subst e; exact absurd hlk hnl
        · exact hd.fwd i o ho k e
        · exact absurd (h.closed k ok hok hlk i e) hnl
      have := hnw k ok t hk hlk hok hdk β hβ
      refine (evHd_slot (by omega : i ≤ m) hsi hm hβ (fun k2 o2 hk1 hk2 ho2 hd2 => ?_)).2 this
      have := hd.dup k k2 ok o2 t hk hk2 hok ho2 hdk hd2
      omega
    · have hno : ∀ k ok, k < m → Lst listed k → os[k]? = some ok → ok.dst ≠ some t := fun k ok hk hlk hok e => hw ⟨k, ok, hk, hlk, hok, e⟩
      rw [h.old t hno]
      refine (evHd_slot (Nat.zero_le i) rfl hsi (hsubi β hβ) (fun k ok _ hk hok hdk => ?_)).1 (h0 ρ' (fun j hj => ?_) β t)
      · rcases hd.slot i o him ho t ht k ok (by omega) hok hdk with e | e | e
        · omega
        · exact hno k ok (by omega) (hpre k e) hok hdk
        · have := hd.fwd k ok hok i e
          omega
      · rw [ha j (.inl hj)]; exact hρ0 j hj
  -- memory as op i sees it, and as it is behind it
  have hreach : ∀ k, memN k (reach os o) = true → Lst listed k := by
    intro k hk
    refine closeP_in (L := Lst listed) (fun p hp e he => ?_) 400 (predsOf o) [] hpre (fun p hp => by cases hp) k (memN_iff.1 hk)
    unfold predsAt at he
    split at he
    · rename_i op hop; exact h.closed p op hop hp e he
    · cases he
  have hSeen : ∀ k, seen (listed.setIfInBounds i true) k = true ↔ k = i ∨ seen listed k = true := fun k => lst_set hisz
  have hlai : ∀ k, k < i + 1 → sm.la.get k = s1.la.get k := fun k hk => evHd_la (by omega) hq1 hm k hk
  have hlai0 : ∀ k, k < i → s1.la.get k = si.la.get k := fun k hk => evHd_la (by omega) hsi hq1 k hk
  have fin : ∀ (ρ1 : Num), (∀ j, j ≠ s0.nid + 2 * i → j ≠ s0.nid + 2 * i + 1 → ρ1 j = ρ j) → ∀ (Hr : Heap) (v : Value) (w' : World), (∀ j ob, (visH s0.nid (seen (listed.setIfInBounds i true)) sm.la s0.heap).get j = some ob → Hr.get j = some ob) →
      (∀ ρ', AgL s0.nid m (listed.setIfInBounds i true) ρ1 ρ' → Sim X.P B M ρ' Hr w' ∧ ∀ β, KVok sm.kv β → TRel ρ' β tv v) → Keeps B M w w' → K (a.put o.dst v) w' := by
    intro ρ1 hρ1 Hr v w' hHr hfin hk
    have hag1 : Agree s0.nid ρ0 ρ1 := fun j hj => by rw [hρ1 j (by omega) (by omega)]; exact hρ0 j hj
    refine hK _ _ ?_
    refine ⟨by simpa using h.size, fun j oj hoj hlj e he' => ?_, fun t ht hlt' => ?_, by rw [put_size]; exact h.asize, by rw [put_defers]; exact h.defers, Nat.le_trans h.base hk.size, J.keeps hp hk h.inv, h.keeps.trans hk,
      fun t hno => ?_, ρ1, hag1, fun ρ' ha' => ⟨(hfin ρ' ha').1.less hHr, fun k ok d hkm hlk hok hdk β hβ => ?_⟩⟩
    · rw [lst_set hisz] at hlj ⊢
      rcases hlj with rfl | hlj
      · rw [ho] at hoj; cases hoj
        exact .inr (hpre e he')
      · exact .inr (h.closed j oj hoj hlj e he')
    · rw [lst_set hisz] at hlt'
      rcases hlt' with rfl | hlt'
      · omega
      · exact h.late t ht hlt'
    · rw [put_getD, if_neg (fun hh => hno i o him ((lst_set hisz).2 (.inl rfl)) ho hh.1)]
      exact h.old t (fun k ok hkm hlk hok => hno k ok hkm ((lst_set hisz).2 (.inr hlk)) hok)
    · rw [put_getD]
      by_cases hki : k = i
      · subst hki
        rw [ho] at hok
        cases hok
        by_cases hds : d < a.tmps.size
        · rw [if_pos ⟨hdk, hds⟩]
          have hslot := evHd_slot (X := X) (os := os) (ρ := ρ') (β := β) (t := d) (r := v) (by omega : k + 1 ≤ m) hq1 hm hβ (fun k2 o2 hk1 hk2 ho2 hd2 => by
            have := hd.dup k k2 o o2 d hkm hk2 ho ho2 hdk hd2
            omega)
          rw [← hslot, e1]
          obtain ⟨_, _, hl'⟩ := hdOp_ex he (evHd_keys hsi).1
          rw [setT_getT, if_pos ⟨hdk, by rw [hl', elen, ← h.asize]; exact hds⟩]
          exact (hfin ρ' ha').2 β hβ
        · -- no such slot
          have hnone : getT sm.tm d = .unk := by
            unfold getT
            have e7 : sm.tm.length = s0.tmps.length := (evHd_keys hm).2
            have e8 : a.tmps.size = s0.tmps.length := h.asize
            have e9 : a.tmps.size ≤ d := Nat.le_of_not_lt hds
            rw [List.getElem?_eq_none (by omega)]
          rw [hnone]
          trivial
      · have hlk' : Lst listed k := by
          rcases (lst_set hisz).1 hlk with e | e
          · exact absurd e hki
          · exact e
        have hne : o.dst ≠ some d := fun e => hki (hd.dup k i ok o d hkm him hok ho hdk e)
        rw [if_neg (fun hh => hne hh.1)]
        exact (hrep ρ' (hback ρ1 hρ1 ρ' ha')).2 k ok d hkm hlk' hok hdk β hβ
  -- the block of operation i lies ahead
  have front : ∀ (ob1 : AObj), s1.la.get i = some ob1 → ∀ j ob, (visH s0.nid (seen (listed.setIfInBounds i true)) sm.la s0.heap).get j = some ob → Heap.get ((s0.nid + 2 * i, ob1) :: visH s0.nid (seen listed) sm.la s0.heap) j = some ob := by
    intro ob1 hob1 j ob hj
    rw [Heap.get_cons]
    rcases visH_cases hlow hj with ⟨hlt, hj'⟩ | ⟨k, rfl, hk, hj'⟩
    · rw [if_neg (by omega), visH_low hlt]; exact hj'
    · by_cases hki : k = i
      · subst hki
        rw [if_pos rfl]
        rw [hlai k (by omega), hob1] at hj'
        exact hj'
      · rw [if_neg (by omega), visH_high hlow]
        rcases (hSeen k).1 hk with e' | hk'
        · exact absurd e' hki
        · rw [if_pos hk']; exact hj'
  have calm : s1.la.get i = none → ∀ j ob, (visH s0.nid (seen (listed.setIfInBounds i true)) sm.la s0.heap).get j = some ob → (visH s0.nid (seen listed) sm.la s0.heap).get j = some ob := by
    intro hno j ob hj
    rcases visH_cases hlow hj with ⟨hlt, hj'⟩ | ⟨k, rfl, hk, hj'⟩
    · rw [visH_low hlt]; exact hj'
    · rw [visH_high hlow]
      rcases (hSeen k).1 hk with e | hk'
      · subst e
        rw [hlai k (by omega), hno] at hj'
        cases hj'
      · rw [if_pos hk']; exact hj'
  have hlow0 : si.la.get i = none := evHd_low hsi i (Nat.le_refl _)
  let ρ1 : Num := fun j => if j = s0.nid + 2 * i then some w.heap.size else ρ j
  have hρ1 : ∀ j, j ≠ s0.nid + 2 * i → j ≠ s0.nid + 2 * i + 1 → ρ1 j = ρ j := fun j hj _ => by
    show (if j = s0.nid + 2 * i then _ else ρ j) = _
    rw [if_neg hj]
  have hnw1 : ∀ ρ', AgL s0.nid m (listed.setIfInBounds i true) ρ1 ρ' → ρ' (s0.nid + 2 * i) = some w.heap.size := fun ρ' ha => by
    rw [(hnew ρ1 ρ' ha).1]
    show (if _ = _ then _ else _) = _
    rw [if_pos rfl]
  have hF1 : AgL s0.nid m (listed.setIfInBounds i true) ρ1 ρ1 := fun _ _ => rfl
  rcases hdOp_cases he with ⟨r, hr1, hr2, _, hr4⟩ | ⟨r, hr1, hr2, hr3, hr4⟩ | ⟨_, _, ob1, hr1, hr4⟩
  · have hrh : r.h = visH s0.nid (fun k => memN k (reach os o)) si.la s0.heap := by
      rw [evEff_eq] at hr1
      split at hr1
      · cases hr1
      · cases hr1; rfl
      · split at hr1
        · cases hr1
        · rename_i hb
          cases hr1
          rcases evAnd_some hb with ⟨r0, hb1, er⟩ | ⟨hq0, _⟩
          · subst er; exact (evBody_quiet hb1).1
          · cases hq0
    rw [← hr2] at hobs
    -- the op runs over what it sees; the world turns in no block that is known
    refine evEffF_sound hX ho hr1 (.inl rfl) hobs.1 hp (F := AgL s0.nid m (listed.setIfInBounds i true) ρ1) hF1 (Cβ := KVok sm.kv) (evHd_keys hm).1 hsub h.base h.inv (fun ρ' ha => ?_) (fun ρ' ha => hT ρ' (hback ρ1 hρ1 ρ' ha)) (fun h => by cases h)
      (fun v w' hfin hk hbl => fin ρ1 hρ1 (visH s0.nid (seen listed) sm.la s0.heap) v w' (calm (by rw [hr4]; exact hlow0)) (fun ρ' ha => ⟨((hrep ρ' (hback ρ1 hρ1 ρ' ha)).1).below (hbl rfl), (hfin ρ' ha).2⟩) hk)
    refine (hrep ρ' (hback ρ1 hρ1 ρ' ha)).1.less fun j ob hj => ?_
    rcases visH_cases hlow hj with ⟨hlt, hj⟩ | ⟨k, rfl, hk, hj⟩
    · rw [visH_low hlt]; exact hj
    · rw [visH_high hlow]
      have hlk := hreach k hk
      rw [if_pos (show seen listed k = true from hlk)]
      have hki : k < i := by
        rcases Nat.lt_or_ge k i with h' | h'
        · exact h'
        · rw [evHd_low hsi k h'] at hj; cases hj
      rw [hlai k (by omega), hlai0 k hki]; exact hj
  · rw [← hr2] at hobs
    obtain ⟨_, hshape, hall⟩ := evEff_lay hr3 hr1
    have he' := hall (visH s0.nid (seen listed) sm.la s0.heap)
    refine evEffF_sound hX ho he' (.inr hr3) hobs.1 hp (F := AgL s0.nid m (listed.setIfInBounds i true) ρ1) hF1 (Cβ := KVok sm.kv) (evHd_keys hm).1 hsub h.base h.inv (fun ρ' ha => (hrep ρ' (hback ρ1 hρ1 ρ' ha)).1) (fun ρ' ha => hT ρ' (hback ρ1 hρ1 ρ' ha)) (fun _ => hnw1)
      (fun v w' hfin hk _ => fin ρ1 hρ1 (r.h ++ visH s0.nid (seen listed) sm.la s0.heap) v w' (fun j ob hj => ?_) hfin hk)
    rcases hshape with e | ⟨ob1, e⟩
    · rw [e, List.nil_append]
      exact calm (by rw [hr4, e]; exact hlow0) j ob hj
    · rw [e]
      exact front ob1 (by rw [hr4, e]; simp [laid, Heap.get_cons]) j ob hj
  · refine evLay_sound hX ho hr1 hobs.1 (F := AgL s0.nid m listed ρ) (ρ := ρ) (fun _ _ => rfl) (Cβ := KVok sm.kv) (evHd_keys hm).1 hsub h.base h.inv (fun ρ' ha => (hrep ρ' ha).1) hT
      (fun v w' b c hfin hk => ?_)
    let ρ2 : Num := fun j => if j = s0.nid + 2 * i then b else if j = s0.nid + 2 * i + 1 then c else ρ j
    have hρ2 : ∀ j, j ≠ s0.nid + 2 * i → j ≠ s0.nid + 2 * i + 1 → ρ2 j = ρ j := fun j h1 h2 => by
      show (if j = s0.nid + 2 * i then _ else if j = s0.nid + 2 * i + 1 then _ else ρ j) = _
      rw [if_neg h1, if_neg h2]
    refine fin ρ2 hρ2 _ v w' (front ob1 (by rw [hr4, Heap.get_cons, if_pos rfl])) (fun ρ' ha => hfin ρ' (hback ρ2 hρ2 ρ' ha) ?_ ?_) hk
    · rw [(hnew ρ2 ρ' ha).1]
      show (if _ = _ then _ else _) = _
      rw [if_pos rfl]
    · rw [(hnew ρ2 ρ' ha).2]
      show (if _ = _ then _ else if _ = _ then _ else _) = _
      rw [if_neg (by omega), if_pos rfl]

/-! Behind the head: one behind the other. -/

def evT (X : Cx) (os : List Oper) (m : Nat) (st : St × KV) : Nat → Option (St × KV)
  | 0 => some st
  | k + 1 => match evT X os m st k with
    | none => none
    | some (s, kv) => match os[m + k]? with
      | none => none
      | some o => evOper X false os o s kv

theorem evT_succ {X : Cx} {os : List Oper} {m : Nat} {st : St × KV} {k : Nat} {s' : St} {kv' : KV} (h : evT X os m st (k + 1) = some (s', kv')) :
    ∃ s kv o, evT X os m st k = some (s, kv) ∧ os[m + k]? = some o ∧ evOper X false os o s kv = some (s', kv') := by
  simp only [evT] at h
  split at h
  · cases h
  · rename_i s kv hs
    split at h
    · cases h
    · rename_i o ho
      exact ⟨s, kv, o, hs, ho, h⟩

theorem evT_obs {X : Cx} {os : List Oper} {m : Nat} {st : St × KV} : ∀ {j i : Nat} {si sj : St} {ki kj : KV}, i ≤ j → evT X os m st i = some (si, ki) → evT X os m st j = some (sj, kj) → allP sj.obs → allP si.obs
  | 0, i, si, sj, ki, kj, hij, h1, h2, hl => by
    obtain rfl : i = 0 := by omega
    rw [h1] at h2; cases h2; exact hl
  | j + 1, i, si, sj, ki, kj, hij, h1, h2, hl => by
    by_cases e : i = j + 1
    · subst e; rw [h1] at h2; cases h2; exact hl
    · obtain ⟨s, kv, o, hs, _, ho⟩ := evT_succ h2
      exact evT_obs (by omega) h1 hs (evOper_obs ho hl)

theorem evT_some {X : Cx} {os : List Oper} {m : Nat} {st : St × KV} : ∀ {j i : Nat} {r : St × KV}, i ≤ j → evT X os m st j = some r → ∃ q, evT X os m st i = some q
  | 0, i, r, hij, h => by
    obtain rfl : i = 0 := by omega
    exact ⟨r, h⟩
  | j + 1, i, r, hij, h => by
    by_cases e : i = j + 1
    · subst e; exact ⟨r, h⟩
    · obtain ⟨s', kv'⟩ := r
      obtain ⟨s, kv, o, hs, _, _⟩ := evT_succ h
      exact evT_some (by omega) hs

theorem evT_frame {X : Cx} {os : List Oper} {m : Nat} {st : St × KV} : ∀ {i : Nat} {s : St} {kv : KV}, evT X os m st i = some (s, kv) → s.rd = st.1.rd ∧ s.mks = st.1.mks ∧ s.bs = st.1.bs
  | 0, s, kv, h => by simp only [evT] at h; cases h; exact ⟨rfl, rfl, rfl⟩
  | i + 1, s, kv, h => by
    obtain ⟨s1, k1, o, h1, _, h2⟩ := evT_succ h
    obtain ⟨e1, e2, e3⟩ := evT_frame h1
    rw [evOper_eq] at h2
    split at h2
    · cases h2
    · cases h2; exact ⟨e1, e2, e3⟩

theorem tailT_sound {X : Cx} {J : Inv X.P} (hX : CxOk X J) {B : Nat} {M : Nat → Prop} (hp : Par X.P B M) {w0 : Bas} {os : List Oper} {m : Nat} (hd : Draws os m) {st : St × KV} {sn : St} {kn : KV} (hn : evT X os m st (os.length - m) = some (sn, kn)) (hl : allP sn.obs)
    {rb : Option Nat} {Q : Exit → Act → World → Prop} (hQ : ∀ a w, RepR X.P J B M w0 kn sn a w → Q .normal a w) :
    ∀ (fuel t : Nat) (listed : Array Bool) (s : St) (kv : KV) (a : Act) (w : World), m ≤ t → t ≤ os.length → os.length ≤ t + fuel → listed.size = os.length → (∀ j, j < os.length → (Lst listed j ↔ j < t)) →
      evT X os m st (t - m) = some (s, kv) → RepR X.P J B M w0 kv s a w → wpAnyIn (Fl rb) 0 X.P .any ⟨os⟩ Q fuel listed a w := by
  intro fuel
  induction fuel with
  | zero =>
    intro t listed s kv a w hmt htn hf hsz hL hs hR
    obtain rfl : t = os.length := by omega
    rw [hs] at hn
    cases hn
    refine ⟨?_, hQ a w hR⟩
    cases hr : Region.ready .any ⟨os⟩ listed with
    | nil => rfl
    | cons x xs =>
      have : x ∈ Region.ready .any ⟨os⟩ listed := by rw [hr]; simp
      obtain ⟨⟨h1, h2⟩, _⟩ := ready_iff.1 this
      exact absurd ((hL x (by omega)).2 (by omega)) h2
  | succ fuel ih =>
    intro t listed s kv a w hmt htn hf hsz hL hs hR
    by_cases htl : t = os.length
    · subst htl
      rw [hs] at hn
      cases hn
      refine ⟨fun _ => hQ a w hR, fun i hi => ?_⟩
      obtain ⟨⟨h1, h2⟩, _⟩ := ready_iff.1 hi
      exact absurd ((hL i (by omega)).2 (by omega)) h2
    · have htlt : t < os.length := by omega
      obtain ⟨ot, hot⟩ : ∃ o, os[t]? = some o := ⟨os[t], by simp [htlt]⟩
      refine ⟨fun h0 => ?_, fun i hi => ?_⟩
      · exfalso
        have : t ∈ Region.ready .any ⟨os⟩ listed := ready_iff.2 ⟨⟨by omega, fun h => by have := (hL t htlt).1 h; omega⟩, ot, hot, fun e he => by
          have := hd.fwd t ot hot e he
          exact (hL e (by omega)).2 this⟩
        rw [h0] at this
        cases this
      · obtain ⟨⟨h1, h2⟩, o, ho, hpre⟩ := ready_iff.1 hi
        have hit : i = t := by
          rcases Nat.lt_trichotomy i t with h | h | h
          · exact absurd ((hL i (by omega)).2 h) h2
          · exact h
          · exfalso
            have := hpre (i - 1) (hd.chain i o (by omega) ho)
            have := (hL (i - 1) (by omega)).1 this
            omega
        subst hit
        obtain ⟨⟨s1, k1⟩, hq1⟩ := evT_some (i := i - m + 1) (by omega) hn
        obtain ⟨s', kv', o', g1, g2, g3⟩ := evT_succ hq1
        rw [hs] at g1
        cases g1
        rw [show m + (i - m) = i by omega] at g2
        exact evOper_sound hX g2 g3 (evT_obs (by omega) hq1 hn hl) hp hR (fun a' w' hR' => ih (i + 1) _ s1 k1 a' w' (by omega) (by omega) (by omega) (by simpa using hsz) (fun j hj => by
          rw [lst_set (by omega)]
          constructor
          · rintro (rfl | h)
            · omega
            · have := (hL j hj).1 h; omega
          · intro h
            by_cases e : j = i
            · exact .inl e
            · exact .inr ((hL j hj).2 (by omega))) (by rw [show i + 1 - m = i - m + 1 by omega]; exact hq1) hR')

/-- The drawn region, whatever the order. -/
theorem drawL_sound {X : Cx} {J : Inv X.P} (hX : CxOk X J) {c : Bool} {B : Nat} {M : Nat → Prop} (hp : Par X.P B M) {w0 : Bas} {os : List Oper} {m : Nat} (hd : Draws os m) {s0 sn : St} {kn : KV} {sm : HSt} (hlow : lowKeys s0.nid s0.heap = true)
    (hm : evHd X c os s0.nid s0.heap s0.ds s0.tmps s0.obs m = some sm) (hn : evT X os m (sm.toSt s0 m, sm.kv) (os.length - m) = some (sn, kn)) (hl : allP sn.obs)
    {a0 : Act} {ρ : Num} (h0 : ∀ ρ', Agree s0.nid ρ ρ' → ∀ β t, TRel ρ' β (getT s0.tmps t) (a0.tmps.getD t undef)) (hρ0 : w0.n ≤ s0.nid ∧ Agree w0.n w0.ρ ρ)
    {rb : Option Nat} {Q : Exit → Act → World → Prop} (hQ : ∀ a w, RepR X.P J B M w0 kn sn a w → Q .normal a w) :
    ∀ (fuel : Nat) (listed : Array Bool) (a : Act) (w : World), unl listed os.length ≤ fuel → HalfL X J B M w0 os m s0 a0 ρ sm listed a w → wpAnyIn (Fl rb) 0 X.P .any ⟨os⟩ Q fuel listed a w := by
  have hlm : allP sm.obs := evT_obs (X := X) (os := os) (m := m) (Nat.zero_le _) rfl hn hl
  have ht0 : evT X os m (sm.toSt s0 m, sm.kv) (m - m) = some (sm.toSt s0 m, sm.kv) := by rw [Nat.sub_self]; rfl
  intro fuel
  induction fuel with
  | zero =>
    intro listed a w hf h
    have hall : ∀ k, k < os.length → Lst listed k := fun k hk => unl_zero (by omega) hk
    have hmn : m = os.length := by
      rcases Nat.lt_or_ge m os.length with hlt | hge
      · exact absurd (hall m hlt) (h.late m (Nat.le_refl _))
      · have := hd.le; omega
    subst hmn
    exact tailT_sound hX hp hd hn hl hQ 0 os.length listed _ sm.kv a w (Nat.le_refl _) (Nat.le_refl _) (by omega) h.size (fun j hj => ⟨fun _ => hj, fun _ => hall j hj⟩) ht0 (halfL_all hm hlow h0 h hρ0 (fun k hk => hall k hk))
  | succ fuel ih =>
    intro listed a w hf h
    by_cases hall : ∀ k, k < m → Lst listed k
    · refine tailT_sound hX hp hd hn hl hQ (fuel + 1) m listed _ sm.kv a w (Nat.le_refl _) hd.le ?_ h.size (fun j hj => ⟨fun hlj => ?_, fun hj' => hall j hj'⟩) ht0 (halfL_all hm hlow h0 h hρ0 hall)
      · have hc : (List.range os.length).countP (fun i => !Nat.blt i m) ≤ unl listed os.length := by
          refine List.countP_mono_left (fun z _ hz => ?_)
          simp only [Bool.not_eq_true'] at hz ⊢
          cases hzl : listed.getD z false
          · rfl
          · exfalso
            refine h.late z ?_ hzl
            rcases Nat.lt_or_ge z m with h' | h'
            · rw [show Nat.blt z m = true by simp [Nat.blt_eq]; exact h'] at hz; cases hz
            · exact h'
        have hc2 : ∀ n, (List.range n).countP (fun i => !Nat.blt i m) = n - m := by
          intro n
          induction n with
          | zero => simp
          | succ n ihn =>
            rw [List.range_succ, List.countP_append, ihn]
            simp only [List.countP_cons, List.countP_nil, Nat.zero_add, Bool.not_eq_true']
            by_cases hnm : n < m
            · rw [if_neg (by rw [show Nat.blt n m = true by simp [Nat.blt_eq]; exact hnm]; simp)]; omega
            · rw [if_pos (by cases hb : Nat.blt n m; rfl; exact absurd (by simpa [Nat.blt_eq] using hb) hnm)]; omega
        rw [hc2] at hc
        omega
      · rcases Nat.lt_or_ge j m with h' | h'
        · exact h'
        · exact absurd hlj (h.late j h')
    · have hex : ∃ k, k < m ∧ ¬ Lst listed k := by
        rcases Classical.em (∃ k, k < m ∧ ¬ Lst listed k) with h' | h'
        · exact h'
        · exact absurd (fun k hk => Classical.byContradiction fun hn => h' ⟨k, hk, hn⟩) hall
      refine ⟨fun hr0 => ?_, fun i hi => ?_⟩
      · exfalso
        haveI : DecidablePred fun k => ¬ Lst listed k := fun k => Classical.propDecidable _
        obtain ⟨k, hk, hnl, hmin⟩ := least m hex
        obtain ⟨o, ho⟩ : ∃ o, os[k]? = some o := ⟨os[k]'(by have := hd.le; omega), by have := hd.le; simp [show k < os.length by omega]⟩
        have : k ∈ Region.ready .any ⟨os⟩ listed := ready_iff.2 ⟨⟨by rw [h.size]; have := hd.le; omega, hnl⟩, o, ho, fun e he => Classical.byContradiction fun hn => hmin e (hd.fwd k o ho e he) hn⟩
        rw [hr0] at this
        cases this
      · obtain ⟨⟨h1, h2⟩, o, ho, hpre⟩ := ready_iff.1 hi
        have hin : i < os.length := by rw [← h.size]; exact h1
        have him : i < m := by
          rcases Nat.lt_trichotomy i m with h' | h' | h'
          · exact h'
          · subst h'
            obtain ⟨k, hk, hnk⟩ := hex
            exact absurd (sink_reach hd hin h.closed ho hpre (i - k) k (Nat.le_refl _) hk) hnk
          · exact absurd (hpre (i - 1) (hd.chain i o h' ho)) (h.late (i - 1) (by omega))
        refine halfL_step hX hp hd hm hlow hlm h0 h him hi (fun a' w' h' => ih _ a' w' ?_ h')
        have := unl_set hin h.size h2
        omega

/-- Does one of the first m operations lay a block? -/
def anyLay : Nat → List Oper → Bool
  | 0, _ => false
  | _, [] => false
  | m + 1, o :: r => layOp o.op || anyLay m r

/-- Head and tail. -/
def evLaid (X : Cx) (os : List Oper) (m : Nat) (s : St) : Option St :=
  match s with
  | ⟨tm, hp, nid, ds, obs, lp, rd, mk, bs⟩ => match lowKeys nid hp with
    | false => none
    | true => match evHd X true os nid hp ds tm obs m with
      | none => none
      | some ⟨tm', la, ob, kv⟩ => match evT X os m (⟨tm', visH nid (fun _ => true) la hp, nid + 2 * m, ds, ob, lp, rd, mk, bs⟩, kv) (os.length - m) with
        | none => none
        | some (s', _) => some s'

theorem evLaid_some {X : Cx} {os : List Oper} {m : Nat} {s s' : St} (h : evLaid X os m s = some s') :
    lowKeys s.nid s.heap = true ∧ ∃ hm kn, evHd X true os s.nid s.heap s.ds s.tmps s.obs m = some hm ∧ evT X os m (hm.toSt s m, hm.kv) (os.length - m) = some (s', kn) := by
  unfold evLaid at h
  dsimp only at h
  split at h
  · cases h
  · rename_i hlow
    split at h
    · cases h
    · rename_i he
      split at h
      · cases h
      · rename_i kn ht
        cases h
        exact ⟨hlow, _, _, he, ht⟩

end Go.Proofs.YthclpocignpfhaaDoor.Ev
