/-
  The evaluator, part I: code, functions, and what they come to as calls.
-/
import Derived.Test.YtaopinmjgjpiiaaGreatDoorEvHd
import Derived.Scope
namespace Go.Proofs.YtaopinmjgjpiiaaGreatDoor.Ev
open Go Go.RowKit Go.Shelf
noncomputable section

/-- Where the last operations, which stand in a chain, begin. -/
def chainLen : List (List Nat) → Nat → Nat
  | [], _ => 0
  | p :: r, t => match memN (t - 1) p with
    | true => chainLen r (t - 1) + 1
    | false => 0

def sinkB (os : List Oper) (m : Nat) : Bool := sinkFrom (os.take (m + 1)) m

def firstSink (os : List Oper) : Nat → Nat → Nat
  | m, 0 => m
  | m, k + 1 => match sinkB os m with
    | true => m
    | false => firstSink os (m + 1) k

def pickM (os : List Oper) : Nat :=
  match os.length with
  | 0 => 0
  | n + 1 =>
    match chainLen ((os.map predsOf).reverse) n with
    | 0 => firstSink os n 1
    | c + 1 => firstSink os (n - (c + 1)) (c + 2)

def St.clean : St → St
  | ⟨tm, hp, nid, ds, obs, lp, rd, mq, bs⟩ => ⟨tm.map cleanT, hp, nid, ds, obs, lp, rd, mq, bs⟩

/-- One bit used. -/
def St.bit : St → List Bool → Prop → St
  | ⟨tm, hp, nid, _, obs, lp, rd, mq, bs⟩, ds, p => ⟨tm, hp, nid, ds, p :: obs, lp, rd, mq, bs⟩

/-- Behind a loop: its number, what it left open. -/
def St.looped : St → Nat → List Prop → St
  | ⟨tm, hp, nid, ds, _, _, rd, mq, bs⟩, k, o => ⟨tm, hp, nid, ds, o, k, rd, mq, bs⟩

def evDraw (X : Cx) (os : List Oper) (s : St) : Option St :=
  match drawOk os (pickM os) with
  | false => none
  | true => match anyLay (pickM os) os with
    | true => evLaid X os (pickM os) s
    | false => match evN X (pickM os) os s os.length with
      | some (s', _) => some s'
      | none => evLaid X os (pickM os) s

/-- Where all is closed, chains are taken first. -/
def spineAt (X : Cx) (os : List Oper) : Option (List (Nat × List Nat)) := match X.auto with
  | true => spineOf os
  | false => none

theorem spineAt_some {X : Cx} {os : List Oper} {sp : List (Nat × List Nat)} (h : spineAt X os = some sp) : spineOf os = some sp := by
  unfold spineAt at h
  split at h
  · exact h
  · cases h

def evRegion (X : Cx) (os : List Oper) (draw : Bool) (s : St) : Option St :=
  match draw with
  | false => match evN X 0 os s os.length with
    | some (s', _) => some s'.clean
    | none => none
  | true => match spineAt X os with
    | some sp => match evSpine X os sp s with
      | some s' => some s'.clean
      | none => none
    | none => match evDraw X os s with
      | some s' => some s'.clean
      | none => match floatOk os (headLen os) with
        | false => none
        | true => match evFloat X os (headLen os) s with
          | some s' => some s'.clean
          | none => none

theorem Rep.drew {P : Program} {J : Inv P} {B : Nat} {M : Nat → Prop} {w0 : Bas} {rb : Option Nat} {s : St} {a : Act} {w : World} (h : Rep P J B M w0 rb s a w) : Rep P J B M w0 rb s a { w with drawn := w.drawn + 1 } := by
  obtain ⟨ρ, hρ0, hρ⟩ := h.rep
  have hb : Below w.heap.size w { w with drawn := w.drawn + 1 } := ⟨rfl, rfl, rfl, Nat.le_refl _, fun _ _ => rfl⟩
  exact ⟨h.low, h.plain, h.size, h.base, J.st w _ (fun _ _ => rfl) (Nat.le_refl _) h.inv, ⟨h.keeps.os, h.keeps.tape, h.keeps.output, h.keeps.size, h.keeps.block⟩, ρ, hρ0, fun ρ' ha => ⟨(hρ ρ' ha).1.below hb, (hρ ρ' ha).2⟩⟩

theorem evRegion_sound {X : Cx} (hX : CxOk X X.J) (hm : X.P.follows .mixedOrders = true) {os : List Oper} {draw : Bool} {s s' : St} (h : evRegion X os draw s = some s') (hl : allP s'.obs) {B : Nat} {M : Nat → Prop} (hp : Par X.P B M) {w0 : Bas} {rb : Option Nat} {a : Act} {w : World}
    (hR : Rep X.P X.J B M w0 rb s a w) {id : Nat} {Q : Exit → Act → World → Prop} (hQ : ∀ a' w', Rep X.P X.J B M w0 rb s' a' w' → Q .normal a' w') : (Code.region id ⟨os⟩ draw).wpIn (Fl rb) 0 X.P Q a w := by
  unfold evRegion at h
  split at h
  · split at h
    case h_2 => cases h
    rename_i sn kn hn
    cases h
    obtain ⟨f1, f2, f3⟩ := evN_frame hn
    refine wpIn_region ?_
    have := wpOps_seq hX hp (rb := rb) (Q := Q) hn hl (fun a' w' hR' => hQ a' w' (RepR.clean hR hR' f1 f2 f3)) os.length 0 s [] a w (by omega) rfl hR.toR
    rw [List.range_eq_range']
    exact this
  · have hR2 := hR.drew
    obtain ⟨hρ0, hρ⟩ := hR2.rep.choose_spec
    have h0 : ∀ ρ', Agree s.nid hR2.rep.choose ρ' → ∀ β t, TRel ρ' β (getT s.tmps t) (a.tmps.getD t undef) := fun ρ' ha β t => by
      have h1 := (hρ ρ' ha).2.2 t
      have h2 := hR2.plain t
      generalize getT s.tmps t = tv at *
      cases tv with
      | unk => trivial
      | v y => exact h1 y rfl
      | sp l y => cases h2
      | key j l b => cases h2
    have hunl : unl (Array.replicate os.length false) os.length ≤ os.length := by
      unfold unl
      have := List.countP_le_length (p := fun i => !(Array.replicate os.length false).getD i false) (l := List.range os.length)
      simpa using this
    have hno : ∀ i, ¬ Lst (Array.replicate os.length false) i := fun i hi => by
      unfold Lst at hi
      rcases Nat.lt_or_ge i os.length with h' | h'
      · simp [h'] at hi
      · simp [h'] at hi
    split at h
    · rename_i hsp
      split at h
      case h_2 => cases h
      rename_i s1 hs1
      cases h
      have hl1 : allP s1.obs := by cases s1; exact hl
      obtain ⟨sn, kn, ob, rfl, hS⟩ := evSpine_some (spineAt_some hsp) hs1 hl1
      obtain ⟨f1, f2, f3⟩ := evF_frame hS.last
      have hQ' : ∀ a' w', RepR X.P X.J B M ⟨{ w with drawn := w.drawn + 1 }, s.nid, hR2.rep.choose, a.defers⟩ kn sn a' w' → Q .normal a' w' := fun a' w' hR' => by
        have hRn : RepR X.P X.J B M ⟨{ w with drawn := w.drawn + 1 }, s.nid, hR2.rep.choose, a.defers⟩ kn (sn.more ob) a' w' := by cases sn; exact ⟨hR'.size, hR'.defers, hR'.base, hR'.inv, hR'.keeps, hR'.keys, hR'.rep⟩
        exact hQ a' w' (RepR.clean hR2 hRn (by cases sn; exact f1) (by cases sn; exact f2) (by cases sn; exact f3))
      refine wpIn_region_any hm ?_
      refine spine_sound hX hp hS h0 ⟨Nat.le_refl _, Agree.refl _ _⟩ hQ' _ _ a _ hunl ?_
      exact ⟨by simp, fun j o _ hj => absurd hj (hno j), hR2.size, rfl, hR2.base, hR2.inv, Keeps.refl _ _ _, fun t _ => rfl, 0, s, [], hR2.rep.choose, rfl, Nat.zero_le _, .inl rfl, fun j o _ _ => ⟨fun e => absurd e (hno j), fun e => by omega⟩, Agree.refl _ _, Nat.le_refl _, fun ρ' ha => ⟨(hρ ρ' ha).1, fun k o d hk => absurd hk (hno k)⟩⟩
    split at h
    · rename_i sn hdr
      cases h
      unfold evDraw at hdr
      split at hdr
      · cases hdr
      rename_i hd
      have hD := drawOk_spec hd
      have laidCase : evLaid X os (pickM os) s = some sn → (Code.region id ⟨os⟩ true).wpIn (Fl rb) 0 X.P Q a w := by
        intro hdr
        obtain ⟨hlow, hm', kn, hhd, htl⟩ := evLaid_some hdr
        obtain ⟨f1, f2, f3⟩ := evT_frame htl
        refine wpIn_region_any hm ?_
        refine drawL_sound hX hp hD hlow hhd htl hl (w0 := ⟨_, s.nid, hR2.rep.choose, a.defers⟩) (a0 := a) (ρ := hR2.rep.choose) h0 ⟨Nat.le_refl _, Agree.refl _ _⟩ (fun a' w' hR' => hQ a' w' (RepR.clean hR2 hR' f1 f2 f3)) _ _ a _ hunl ?_
        refine ⟨by simp, fun j o _ hj => absurd hj (hno j), fun t _ => hno t, hR2.size, rfl, hR2.base, hR2.inv, Keeps.refl _ _ _, fun t _ => rfl, hR2.rep.choose, Agree.refl _ _, fun ρ' ha => ⟨?_, fun k o d _ hk => absurd hk (hno k)⟩⟩
        refine (hρ ρ' (fun j hj => ha j (.inl hj))).1.less fun j o hj => ?_
        replace hj := visE_mono (g := fun _ => false) (H2 := visH (seen (Array.replicate os.length false)) hm'.la s.heap) (fun e _ _ _ => by
          cases hq : seen (Array.replicate os.length false) e with
          | false => rfl
          | true => exact absurd hq (hno e)) (fun _ _ hh => hh) j o hj
        replace hj : (visH (seen (Array.replicate os.length false)) hm'.la s.heap).get j = some o := by
          cases hq : hm'.ef with
          | none => rw [hq] at hj; exact hj
          | some q => rw [hq] at hj; exact hj
        rcases visH_some hj with hj' | ⟨e, _, hk, _⟩
        · exact hj'
        · exact absurd hk (hno e.k)
      split at hdr
      · exact laidCase hdr
      · split at hdr
        case h_2 => exact laidCase hdr
        rename_i sn' kn hn
        cases hdr
        obtain ⟨f1, f2, f3⟩ := evN_frame hn
        obtain ⟨⟨sm, km⟩, hmm⟩ := evN_some hD.le hn
        refine wpIn_region_any hm ?_
        refine draw_sound hX hp hD hn hl hmm (w0 := ⟨_, s.nid, hR2.rep.choose, a.defers⟩) (a0 := a) (ρ := hR2.rep.choose) h0 ⟨Nat.le_refl _, Agree.refl _ _⟩ (fun a' w' hR' => hQ a' w' (RepR.clean hR2 hR' f1 f2 f3)) _ _ a _ hunl ?_
        exact ⟨by simp, fun j o _ hj => absurd hj (hno j), fun t _ => hno t, hR2.size, rfl, hR2.base, hR2.inv, Keeps.refl _ _ _, fun ρ' ha => (hρ ρ' ha).1, fun t _ => rfl, fun k o d _ hk => absurd hk (hno k)⟩
    · split at h
      · cases h
      rename_i hd
      have hD := floatOk_spec hd
      split at h
      case h_2 => cases h
      rename_i sn hn
      cases h
      obtain ⟨ws, hm', kn, hhd, hws, htl⟩ := evFloat_some hn
      obtain ⟨f1, f2, f3⟩ := evT_frame htl
      refine wpIn_region_any hm ?_
      refine float_sound hX hp hD hhd (fun k o ho => storedIn_spec hws k o (by rw [List.getElem?_drop]; exact ho)) h0 (w0 := ⟨_, s.nid, hR2.rep.choose, a.defers⟩) ⟨Nat.le_refl _, Agree.refl _ _⟩ htl hl (fun a' w' hR' => hQ a' w' (RepR.clean hR2 hR' f1 f2 f3)) _ (headLen os) _ _ _ a _ hunl (by rw [Nat.sub_self]; rfl) ?_
      exact ⟨by simp, fun j o _ hj => absurd hj (hno j), Nat.le_refl _, hD.le, fun j hj _ => ⟨fun e => absurd e (hno j), fun e => by omega⟩, hR2.size, rfl, hR2.base, hR2.inv, Keeps.refl _ _ _, fun t _ => rfl, hR2.rep.choose, Agree.refl _ _, fun ρ' ha => ⟨(hρ ρ' ha).1, fun k o d _ hk => absurd hk (hno k)⟩⟩

/-- A region whose last operation defers a call. -/
def evDefer (X : Cx) (os : List Oper) (s : St) : Option St :=
  match os.length with
  | 0 => none
  | m + 1 => match nthF os m with
    | none => none
    | some o => match o.op with
      | .defer c => match o.guard, c.callee, s.rd with
        | none, .value f, none => match evN X 0 os s m with
          | some (⟨tm, hp, nid, ds, obs, lp, rd, mk, bs⟩, _) => match noGlob f && c.args.toList.all noGlob, evo tm [] f, evArgs (evo tm []) c.args.toList with
            | true, some (.func (.func fid) ⟨first⟩ ⟨cap⟩), some args => some (St.clean ⟨setT tm o.dst .unk, hp, nid, ds, obs, lp, rd, Mk.call fid cap (first ++ args) :: mk, bs⟩)
            | _, _, _ => none
          | none => none
        | _, _, _ => none
      | _ => none

theorem wpOps_seqT {X : Cx} {J : Inv X.P} (hX : CxOk X J) {m : Nat} {os : List Oper} {s0 sn : St} {kn : KV} {B : Nat} {M : Nat → Prop} (hp : Par X.P B M) {w0 : Bas} {rb : Option Nat} {Q : Exit → Act → World → Prop} {n : Nat} {tl : List Nat}
    (hn : evN X m os s0 n = some (sn, kn)) (hl : allP sn.obs) (hQ : ∀ a w, RepR X.P J B M w0 kn sn a w → wpOpsIn (Fl rb) 0 X.P ⟨os⟩ Q tl a w) :
    ∀ (k i : Nat) (s : St) (kv : KV) (a : Act) (w : World), i + k = n → evN X m os s0 i = some (s, kv) → RepR X.P J B M w0 kv s a w → wpOpsIn (Fl rb) 0 X.P ⟨os⟩ Q (List.range' i k ++ tl) a w := by
  intro k
  induction k with
  | zero =>
    intro i s kv a w hik hs hR
    obtain rfl : i = n := by omega
    rw [hs] at hn
    cases hn
    simp only [List.range'_zero, List.nil_append]
    exact hQ a w hR
  | succ k ih =>
    intro i s kv a w hik hs hR
    rw [List.range'_succ, List.cons_append, wpOpsIn_cons]
    obtain ⟨q1, hq1⟩ := evN_some (i := i + 1) (by omega) hn
    obtain ⟨s1, k1⟩ := q1
    obtain ⟨s', kv', o, h1, h2, h3⟩ := evN_succ hq1
    rw [hs] at h1
    cases h1
    exact evOper_sound hX h2 h3 (evN_obs (by omega) hq1 hn hl) hp hR (fun a' w' hR' => ih (i + 1) s1 k1 a' w' (by omega) hq1 hR')

theorem run_resolve {P : Program} {a : Act} {c : Call} {f : Operand} {ty : TypeId} {fn : Fn} {first cap : Array Value} (hc : c.callee = .value f) (hf : a.eval f = .func fn first cap) (w : World) :
    (resolve a.eval c ty).run P w = .ok ⟨.fn fn cap, first ++ c.args.map a.eval⟩ w := by
  unfold resolve
  rw [hc]
  simp only [hf, Deferred.ofValue]
  rfl

theorem evDefer_sound {X : Cx} (hX : CxOk X X.J) {os : List Oper} {s s' : St} (h : evDefer X os s = some s') (hl : allP s'.obs) {B : Nat} {M : Nat → Prop} (hp : Par X.P B M) {w0 : Bas} {rb : Option Nat} {a : Act} {w : World}
    (hR : Rep X.P X.J B M w0 rb s a w) {id : Nat} {Q : Exit → Act → World → Prop} (hQ : ∀ a' w', Rep X.P X.J B M w0 rb s' a' w' → Q .normal a' w') : (Code.region id ⟨os⟩ false).wpIn (Fl rb) 0 X.P Q a w := by
  unfold evDefer at h
  split at h
  case h_1 => cases h
  rename_i m hm
  split at h
  case h_1 => cases h
  rename_i o ho
  rw [nthF_eq] at ho
  split at h
  case h_2 => cases h
  rename_i c hop
  split at h
  case h_2 => cases h
  rename_i f hg hcal hrd
  split at h
  case h_2 => cases h
  rename_i tm hpq nid ds obs lp rd mk bs kv hn
  split at h
  case h_2 => cases h
  rename_i fid first cap args hng hf hargs
  cases h
  rw [Bool.and_eq_true] at hng
  obtain ⟨f1, f2, f3⟩ := evN_frame hn
  have hrb : rb = none := by
    have := (hR.rep.choose_spec.2 _ (Agree.refl _ _)).2.1.round
    rw [hrd] at this
    exact this
  subst hrb
  refine wpIn_region ?_
  rw [show (⟨os⟩ : Array Oper).size = m + 1 from hm, List.range_succ, List.range_eq_range']
  refine wpOps_seqT hX hp (Q := Q) hn hl (fun a1 w1 hR1 => ?_) m 0 s [] a w (by omega) rfl hR.toR
  rw [wpOpsIn_cons]
  unfold wpOpIn
  rw [show (⟨os⟩ : Array Oper)[m]? = some o by simpa using ho]
  simp only [Region.wanted, hg, if_true]
  obtain ⟨ρ2, hρ20, hρ2⟩ := hR1.rep
  obtain ⟨β, hβ⟩ := hR1.keys
  have val : ∀ ρ', Agree nid ρ2 ρ' → a1.eval f = rv ρ' (.func (.func fid) ⟨first⟩ ⟨cap⟩) ∧ c.args.toList.map a1.eval = rvL ρ' args := fun ρ' ha => by
    have hS := (hρ2 ρ' ha).1
    have hT := (hρ2 ρ' ha).2 β hβ
    refine ⟨evo_sound (P := X.P) hS (V_nil β) hf (fun t _ => hT t) (fun g e => by subst e; cases hng.1), evArgs_sound _ _ (fun x hx y hy => evo_sound (P := X.P) hS (V_nil β) hy (fun t _ => hT t) (fun g e => ?_)) hargs⟩
    have := List.all_eq_true.1 hng.2 x hx
    subst e
    cases this
  obtain ⟨v1, v2⟩ := val ρ2 (Agree.refl _ _)
  refine ⟨fun _ _ => trivial, ?_⟩
  have hrun : (Oper.semAt none a1.eval o).run X.P w1 = .ok (.defer ⟨.fn (.func fid) ⟨rvL ρ2 cap⟩, (⟨rvL ρ2 first⟩ : Array Value) ++ ⟨rvL ρ2 args⟩⟩) w1 := by
    rw [Oper.semAt_none]
    unfold execOp
    rw [hop]
    simp only [rv, rvA] at v1
    have hr := run_resolve (P := X.P) (ty := o.type) hcal v1 w1
    have e2 : c.args.map a1.eval = ⟨rvL ρ2 args⟩ := by
      rw [← v2]
      apply Array.ext'
      simp
    rw [e2] at hr
    simp only
    rw [Sem.run_bind, hr]
    rfl
  show o.uponIn _ _ _ _ _ _ ((Oper.semAt none a1.eval o).run X.P w1)
  rw [hrun, Oper.uponIn_defer]
  show Q .normal _ _
  refine hQ _ _ ?_
  obtain ⟨hρ0, hρ⟩ := hR.rep.choose_spec
  have hdef := hR1.defers
  have hkp := hR1.keeps
  simp only at hρ20 hdef hkp f1 f2 f3
  have hsz := hR1.size
  refine ⟨?_, fun t => ?_, ?_, hR1.base, hR1.inv, hR.keeps.trans hkp, ρ2, ⟨Nat.le_trans hρ0.1 hρ20.1, hρ0.2.trans hρ20.2 hρ0.1⟩, fun ρ' ha => ⟨(hρ2 ρ' ha).1, ?_, fun t x hx => ?_⟩⟩
  · show w0.n = bs
    rw [f3]
    exact hR.low
  · show plainT (getT (List.map cleanT (setT tm o.dst .unk)) t) = true
    rw [clean_get]
    generalize getT (setT tm o.dst .unk) t = tv
    cases tv with
    | key j l b => cases l <;> rfl
    | _ => rfl
  · show _ = (List.map cleanT (setT tm o.dst .unk)).length
    rw [put_size, List.length_map, setT_length]
    exact hsz
  · have g := (hρ ρ' (fun i hi => (ha i (Nat.lt_of_lt_of_le hi hρ20.1)).trans (hρ20.2 i hi))).2.1
    refine ⟨?_, by show none = rd.bind ρ'; rw [f1]; exact g.round⟩
    rw [put_defers]
    show _ :: a1.defers = mkD ρ' (.call fid cap (first ++ args)) :: mk.map (mkD ρ')
    rw [hdef, f2, g.defers]
    congr 1
    obtain ⟨u1, u2⟩ := val ρ' ha
    rw [v1] at u1
    rw [v2] at u2
    simp only [rv, rvA, Value.func.injEq, Array.mk.injEq] at u1
    simp only [mkD, Deferred.mk.injEq, Target.fn.injEq, Array.mk.injEq, true_and]
    refine ⟨u1.2.2, ?_⟩
    rw [u1.2.1, u2]
    apply Array.ext'
    simp [rvL_eq]
  · have ht := (hρ2 ρ' ha).2 β hβ t
    replace hx : getT (List.map cleanT (setT tm o.dst .unk)) t = .v x := hx
    rw [clean_get, setT_getT] at hx
    rw [put_getD]
    split at hx
    · cases hx
    · rename_i hne
      have hne' : ¬ (o.dst = some t ∧ t < a1.tmps.size) := fun hh => hne ⟨hh.1, by have := hh.2; rw [hsz] at this; exact this⟩
      rw [if_neg hne']
      generalize getT tm t = tv at *
      cases tv with
      | unk => cases hx
      | v y => cases hx; exact ht
      | sp l y => cases hx
      | key j l b =>
        cases l with
        | nil =>
          cases hx
          simp only [rv]
          exact ht.2.1 (V_nil β)
        | cons _ _ => cases hx

def evRounds (body : St → Option (AX × St)) : Nat → St → Option (AX × St)
  | 0, _ => none
  | n + 1, s => match body s with
    | some (.normal, s1) => evRounds body n s1
    | r => r

/-- What a loop comes to, as the prover has shown elsewhere. -/
def LoopTo (X : Cx) (c : Code) (s : St) (x : AX) (s' : St) : Prop :=
  ∀ (B : Nat) (M : Nat → Prop) (w0 : Bas) (rb : Option Nat) (a : Act) (w : World), Par X.P B M → Rep X.P X.J B M w0 rb s a w → (Code.loop c).wpIn (Fl rb) 0 X.P (fun e a' w' => e = x.toExit ∧ Rep X.P X.J B M w0 rb s' a' w') a w

/-- A state without what is no matter of frame and world. -/
def St.core (s : St) : St := ⟨s.tmps, s.heap, s.nid, [], [], 0, s.rd, s.mks, s.bs⟩

abbrev Hints := List (St → Option (AX × St))

def hintAt : Hints → Nat → Option (St → Option (AX × St))
  | [], _ => none
  | h :: r, n => match n with
    | 0 => some h
    | k + 1 => hintAt r k

def optOf : TV → Option Value
  | .v x => some x
  | _ => none

def isBusy : LoopState → Bool
  | .busy => true
  | _ => false

/-- A loop over a function begins: the record's number. -/
def enterL (s : St) (ps : List Nat) (asg bd : Code) : Option (Nat × St) :=
  match s with
  | ⟨tm, hp, nid, ds, obs, lp, rd, mk, bs⟩ => match rd with
    | none => some (nid + 1, ⟨tm, (nid + 1, .loop .ready none (tm.map optOf) ps asg bd) :: (nid, .defr) :: hp, nid + 2, ds, obs, lp, none, Mk.mark nid :: mk, bs⟩)
    | some l0 => match hp.get l0 with
      | some (.loop _ _ _ _ _ _) => some (nid, ⟨tm, (nid, .loop .ready none (tm.map optOf) ps asg bd) :: hp, nid + 1, ds, obs, lp, some l0, mk, bs⟩)
      | _ => none

theorem enterL_eq (s : St) (ps : List Nat) (asg bd : Code) : enterL s ps asg bd =
    match s.rd with
    | none => some (s.nid + 1, ⟨s.tmps, (s.nid + 1, .loop .ready none (s.tmps.map optOf) ps asg bd) :: (s.nid, .defr) :: s.heap, s.nid + 2, s.ds, s.obs, s.lp, none, Mk.mark s.nid :: s.mks, s.bs⟩)
    | some l0 => match s.heap.get l0 with
      | some (.loop _ _ _ _ _ _) => some (s.nid, ⟨s.tmps, (s.nid, .loop .ready none (s.tmps.map optOf) ps asg bd) :: s.heap, s.nid + 1, s.ds, s.obs, s.lp, some l0, s.mks, s.bs⟩)
      | _ => none := by
  unfold enterL
  dsimp only

/-- It ends: what is pending is done. -/
def leaveL (s : St) (l : Nat) (r : CR) : Option (AX × St) :=
  match s, r with
  | ⟨tm, _, _, _, obs, lp, rd, mk, bs⟩, ⟨_, h, n, ob, ds'⟩ => match h.get l with
    | some (.loop st pn ts ps asg bd) => match isBusy st with
      | true => none
      | false => match pn with
        | none => some (.normal, ⟨tm, h.set l (.loop .exhausted pn ts ps asg bd), n, ds', ob ++ obs, lp, rd, mk, bs⟩)
        | some .ret => some (.ret, ⟨tm, h.set l (.loop .exhausted pn ts ps asg bd), n, ds', ob ++ obs, lp, rd, mk, bs⟩)
        | some (.exit id) => some (.exit id, ⟨tm, h.set l (.loop .exhausted pn ts ps asg bd), n, ds', ob ++ obs, lp, rd, mk, bs⟩)
        | _ => none
    | _ => none

theorem leaveL_eq (s : St) (l : Nat) (r : CR) : leaveL s l r =
    match r.h.get l with
    | some (.loop st pn ts ps asg bd) => match isBusy st with
      | true => none
      | false =>
        let s2 : St := ⟨s.tmps, r.h.set l (.loop .exhausted pn ts ps asg bd), r.n, r.ds, r.obs ++ s.obs, s.lp, s.rd, s.mks, s.bs⟩
        match pn with
        | none => some (.normal, s2)
        | some .ret => some (.ret, s2)
        | some (.exit id) => some (.exit id, s2)
        | _ => none
    | _ => none := by
  unfold leaveL
  dsimp only

def callL (X : Cx) (fid : FuncId) (args : List Value) (s : St) : Option CR :=
  match s with
  | ⟨_, hp, n, ds, _, _, _, _, _⟩ => X.cl fid args hp n ds

def evCode (X : Cx) (L : Hints) : Nat → Code → St → Option (AX × St)
  | 0, _, _ => none
  | f + 1, c, s =>
    match c with
    | .skip => some (.normal, s)
    | .label _ => some (.normal, s)
    | .region _ ⟨os⟩ draw => match evRegion X os draw s with
      | some s' => some (.normal, s')
      | none => match draw with
        | false => match evDefer X os s with
          | some s' => some (.normal, s')
          | none => none
        | true => none
    | .seq c1 c2 => match evCode X L f c1 s with
      | some (.normal, s1) => evCode X L f c2 s1
      | r => r
    | .cond o c1 c2 => match evo s.tmps [] o with
      | some (.bool b) => match s.ds with
        | d :: ds => match d with
          | true => evCode X L f c1 (s.bit ds (b = true))
          | false => evCode X L f c2 (s.bit ds (b = false))
        | [] => match b with
          | true => evCode X L f c1 s
          | false => evCode X L f c2 s
      | _ => none
    | .block id c1 => match evCode X L f c1 s with
      | some (.exit i, s1) => match Nat.beq i id with
        | true => some (.normal, s1)
        | false => some (.exit i, s1)
      | r => r
    | .scope c1 => evCode X L f c1 s
    | .loop c1 => match hintAt L s.lp with
      | some h => match h s with
        | some (x, s') => some (x, s'.looped (s.lp + 1) (LoopTo X c1 s.core x s'.core :: s.obs))
        | none => none
      | none => evRounds (evCode X L f c1) f s
    | .exit id => some (.exit id, s)
    | .ret => some (.ret, s)
    | .rangeFunc g ⟨ps⟩ asg bd => match noGlob g, evo s.tmps [] g with
      | true, some (.func (.func fid) ⟨first⟩ ⟨cap⟩) => match enterL s ps asg bd with
        | none => none
        | some (l, s1) => match callL X fid (first ++ [.func (.yield l) ⟨[]⟩ ⟨[]⟩] ++ cap) s1 with
          | none => none
          | some r => leaveL s1 l r
      | _, _ => none
    | _ => none

theorem Rep.same {P : Program} {J : Inv P} {B : Nat} {M : Nat → Prop} {w0 : Bas} {rb : Option Nat} {s s' : St} {a : Act} {w : World} (h : Rep P J B M w0 rb s a w) (h1 : s'.tmps = s.tmps) (h2 : s'.heap = s.heap) (h3 : s'.nid = s.nid) (h4 : s'.rd = s.rd) (h5 : s'.mks = s.mks) (h6 : s'.bs = s.bs) : Rep P J B M w0 rb s' a w := by
  obtain ⟨ρ, hρ0, hρ⟩ := h.rep
  exact ⟨by rw [h6]; exact h.low, by rw [h1]; exact h.plain, by rw [h1]; exact h.size, h.base, h.inv, h.keeps, ρ, by rw [h3]; exact hρ0, fun ρ' ha => by
    rw [h3] at ha
    obtain ⟨g1, g2, g3⟩ := hρ ρ' ha
    rw [h1, h2]
    exact ⟨g1, ⟨by rw [h5]; exact g2.defers, by rw [h4]; exact g2.round⟩, g3⟩⟩

theorem enterL_obs {s s1 : St} {ps : List Nat} {asg bd : Code} {l : Nat} (h : enterL s ps asg bd = some (l, s1)) : s1.obs = s.obs := by
  rw [enterL_eq] at h
  split at h
  · cases h; rfl
  · split at h
    · cases h; rfl
    · cases h

theorem leaveL_obs {s s2 : St} {l : Nat} {r : CR} {x : AX} (h : leaveL s l r = some (x, s2)) : s2.obs = r.obs ++ s.obs := by
  rw [leaveL_eq] at h
  split at h
  · split at h
    · cases h
    · simp only [] at h
      split at h <;> first | (cases h; rfl) | cases h
  · cases h

/-- What is left open only grows. -/
theorem evRegion_obs {X : Cx} {os : List Oper} {draw : Bool} {s s' : St} (h : evRegion X os draw s = some s') (hl : allP s'.obs) : allP s.obs := by
  unfold evRegion at h
  split at h
  · split at h
    · rename_i hn; cases h; exact evN_obs (Nat.zero_le _) rfl hn hl
    · cases h
  · split at h
    · rename_i hsp
      split at h
      case h_2 => cases h
      rename_i s1 hs1
      cases h
      have hl1 : allP s1.obs := by cases s1; exact hl
      obtain ⟨sn, kn, ob, rfl, hS⟩ := evSpine_some (spineAt_some hsp) hs1 hl1
      exact evF_obs (Nat.zero_le _) rfl hS.last hS.obs
    split at h
    · rename_i sn hdr
      cases h
      unfold evDraw at hdr
      split at hdr
      · cases hdr
      have laidCase : evLaid X os (pickM os) s = some sn → allP s.obs := fun hdr => by
        obtain ⟨_, hm', kn, hhd, htl⟩ := evLaid_some hdr
        exact evHd_obs (Nat.zero_le _) rfl hhd (evT_obs (Nat.zero_le _) rfl htl hl)
      split at hdr
      · exact laidCase hdr
      · split at hdr
        · rename_i hn; cases hdr; exact evN_obs (Nat.zero_le _) rfl hn hl
        · exact laidCase hdr
    · split at h
      · cases h
      · split at h
        · rename_i hn
          cases h
          obtain ⟨_, hm', kn, hhd, _, htl⟩ := evFloat_some hn
          exact evHd_obs (Nat.zero_le _) rfl hhd (evT_obs (Nat.zero_le _) rfl htl hl)
        · cases h

theorem evDefer_obs {X : Cx} {os : List Oper} {s s' : St} (h : evDefer X os s = some s') (hl : allP s'.obs) : allP s.obs := by
  unfold evDefer at h
  split at h
  case h_1 => cases h
  split at h
  case h_1 => cases h
  split at h
  case h_2 => cases h
  split at h
  case h_2 => cases h
  split at h
  case h_2 => cases h
  rename_i hn
  split at h
  case h_2 => cases h
  cases h
  exact evN_obs (Nat.zero_le _) rfl hn hl

theorem evRounds_obs {body : St → Option (AX × St)} (hb : ∀ s x s', body s = some (x, s') → allP s'.obs → allP s.obs) : ∀ (n : Nat) (s : St) (x : AX) (s' : St), evRounds body n s = some (x, s') → allP s'.obs → allP s.obs
  | 0, s, x, s', h, _ => by simp [evRounds] at h
  | n + 1, s, x, s', h, hl => by
    simp only [evRounds] at h
    split at h
    · rename_i s1 h1
      exact hb _ _ _ h1 (evRounds_obs hb n s1 x s' h hl)
    · exact hb _ _ _ h hl

theorem evCode_obs {X : Cx} {L : Hints} : ∀ (f : Nat) (c : Code) (s : St) (x : AX) (s' : St), evCode X L f c s = some (x, s') → allP s'.obs → allP s.obs := by
  intro f
  induction f with
  | zero => intro c s x s' h; simp [evCode] at h
  | succ f ih =>
    intro c s x s' h hl
    unfold evCode at h
    split at h
    · cases h; exact hl
    · cases h; exact hl
    · split at h
      · rename_i hr; cases h; exact evRegion_obs hr hl
      · split at h
        · split at h
          · rename_i hr; cases h; exact evDefer_obs hr hl
          · cases h
        · cases h
    · split at h
      · rename_i s1 h1; exact ih _ _ _ _ h1 (ih _ _ _ _ h hl)
      · exact ih _ _ _ _ h hl
    · split at h
      · split at h
        · split at h
          · exact (ih _ _ _ _ h hl).2
          · exact (ih _ _ _ _ h hl).2
        · split at h
          · exact ih _ _ _ _ h hl
          · exact ih _ _ _ _ h hl
      · cases h
    · split at h
      · rename_i i s1 h1
        split at h <;> (cases h; exact ih _ _ _ _ h1 hl)
      · exact ih _ _ _ _ h hl
    · exact ih _ _ _ _ h hl
    · split at h
      · split at h
        · cases h; exact hl.2
        · cases h
      · exact evRounds_obs (fun s x s' => ih _ s x s') f s x s' h hl
    · cases h; exact hl
    · cases h; exact hl
    · split at h
      · split at h
        · cases h
        · rename_i l s1 he
          split at h
          · cases h
          · rw [leaveL_obs h, allP_append, enterL_obs he] at hl
            exact hl.2
      · cases h
    · cases h

theorem evRounds_sound {P : Program} {rb : Option Nat} {c : Code} {body : St → Option (AX × St)} {Q : Exit → Act → World → Prop} {R : St → Act → World → Prop} (hobs : ∀ s x s', body s = some (x, s') → allP s'.obs → allP s.obs)
    (hb : ∀ s x s', body s = some (x, s') → allP s'.obs → ∀ a w, R s a w → ∀ Q' : Exit → Act → World → Prop, (∀ a' w', R s' a' w' → Q' x.toExit a' w') → c.wpIn (Fl rb) 0 P Q' a w) :
    ∀ (n : Nat) (s : St) (x : AX) (s' : St), evRounds body n s = some (x, s') → allP s'.obs → (∀ a' w', R s' a' w' → Q x.toExit a' w') → ∀ a w, R s a w → x ≠ .normal ∧ Code.roundsIn (Fl rb) 0 P c Q n a w
  | 0, s, x, s', h, _, _, _, _, _ => by simp [evRounds] at h
  | n + 1, s, x, s', h, hl, hQ, a, w, hR => by
    simp only [evRounds] at h
    split at h
    · rename_i s1 h1
      have ih := evRounds_sound hobs hb n s1 x s' h hl hQ
      have hl1 := evRounds_obs hobs n s1 x s' h hl
      refine ⟨?_, ?_⟩
      · -- the rest leaves otherwise
        have hne : ∀ (n : Nat) (s : St) (x : AX) (s' : St), evRounds body n s = some (x, s') → x ≠ .normal := by
          intro n
          induction n with
          | zero => intro s x s' h; simp [evRounds] at h
          | succ n ihn =>
            intro s x s' h
            simp only [evRounds] at h
            split at h
            · exact ihn _ _ _ h
            · rename_i hno
              rw [h] at hno
              intro e
              subst e
              exact hno _ rfl
        exact hne n s1 x s' h
      · rw [roundsIn_succ]
        refine hb s .normal s1 h1 hl1 a w hR _ (fun a' w' hR' => ?_)
        exact (ih a' w' hR').2
    · rename_i hno
      have hxn : x ≠ .normal := fun e => by subst e; exact hno s' h
      refine ⟨hxn, ?_⟩
      rw [roundsIn_succ]
      refine hb s x s' h hl a w hR _ (fun a' w' hR' => ?_)
      cases x with
      | normal => exact absurd rfl hxn
      | exit id => exact hQ a' w' hR'
      | ret => exact hQ a' w' hR'

theorem evo_rep {P : Program} {J : Inv P} {B : Nat} {M : Nat → Prop} {w0 : Bas} {rb : Option Nat} {s : St} {a : Act} {w : World} (hR : Rep P J B M w0 rb s a w) {o : Operand} (hg : noGlob o = true) {v : Value} (h : evo s.tmps [] o = some v) :
    ∀ ρ', Agree s.nid hR.rep.choose ρ' → a.eval o = rv ρ' v := by
  obtain ⟨_, hρ⟩ := hR.rep.choose_spec
  intro ρ' ha
  refine evo_sound (β := fun _ => false) (hρ ρ' ha).1 (V_nil _) h (fun t _ => ?_) (fun g e => by subst e; cases hg)
  have := (hρ ρ' ha).2.2 t
  have hp := hR.plain t
  generalize getT s.tmps t = tv at *
  cases tv with
  | unk => trivial
  | v y => exact this y rfl
  | sp l y => cases hp
  | key j l b => cases hp

theorem run_enterLoop_inner {P : Program} {w : World} {l : Nat} {r : Loop} (h : w.heap[l]? = some (.loop r)) (fn : FuncId) (tmps : Array Value) (ps : Array Tmp) (assign body : Code) :
    (Instr.enterLoop fn tmps ps assign body (some l)).run P w =
      .ok (w.heap.size, []) (w.alloc (.loop { state := .ready, pending := none, fn, tmps, params := ps, assign, body, defers := r.defers })) := by
  unfold Instr.enterLoop
  simp only [Sem.run_bind, run_getLoop h, run_newObj_alloc, Result.andThen, Sem.run_pure]

theorem getT_opt {ts : List TV} {t : Nat} {x : Value} (h : (ts.map optOf)[t]? = some (some x)) : getT ts t = .v x := by
  rw [List.getElem?_map] at h
  simp only [getT_def]
  cases hg : ts[t]? with
  | none => rw [hg] at h; cases h
  | some tv =>
    rw [hg] at h
    simp only [Option.map_some, Option.some.injEq] at h
    cases tv with
    | v y => simp only [optOf] at h; cases h; rfl
    | unk => cases h
    | sp l y => cases h
    | key j l b => cases h

theorem enterL_sound {P : Program} {J : Inv P} {B : Nat} {M : Nat → Prop} (hp : Par P B M) {w0 : Bas} {rb : Option Nat} {s s1 : St} {a : Act} {w : World} (hR : Rep P J B M w0 rb s a w) {ps : List Nat} {asg bd : Code} {l : Nat} (h : enterL s ps asg bd = some (l, s1)) (fn : FuncId) :
    ∃ b mark w1 ρ1, (Instr.enterLoop fn a.tmps ⟨ps⟩ asg bd (Fl rb).round).run P w = .ok (b, mark) w1 ∧ Agree s.nid hR.rep.choose ρ1 ∧ s.nid ≤ s1.nid ∧ s1.tmps = s.tmps ∧ ρ1 l = some b ∧ B ≤ w1.heap.size ∧ J.I w1 ∧ Keeps B M w0.w w1 ∧
      ∀ ρ', Agree s1.nid ρ1 ρ' → Sim P B M ρ' s1.heap w1 ∧ FR ρ' rb s1 { a with defers := mark ++ a.defers } := by
  obtain ⟨hρ0, hρ⟩ := hR.rep.choose_spec
  generalize hR.rep.choose = ρ at *
  have fin : ∀ (w1 : World) (ρ1 : Num), Below w.heap.size w w1 → B ≤ w1.heap.size ∧ J.I w1 ∧ Keeps B M w0.w w1 := fun w1 ρ1 hb => by
    have hk := Keeps.of_below (M := M) hb hR.base
    exact ⟨Nat.le_trans hR.base hk.size, J.keeps hp hk hR.inv, hR.keeps.trans hk⟩
  rw [enterL_eq] at h
  split at h
  · rename_i hrd
    cases h
    have hrb : rb = none := by
      have := (hρ ρ (Agree.refl _ _)).2.1.round
      rw [hrd] at this
      exact this
    subst hrb
    have hb1 : Below w.heap.size w (w.alloc (.deferred (some []))) := (Below.refl _ _).alloc (Nat.le_refl _) _
    have hb2 : ∀ o, Below w.heap.size w ((w.alloc (.deferred (some []))).alloc o) := fun o => hb1.alloc (by simp) o
    let ρ1 : Num := fun i => if i = s.nid then some w.heap.size else if i = s.nid + 1 then some (w.heap.size + 1) else ρ i
    obtain ⟨f1, f2, f3⟩ := fin _ ρ1 (hb2 (.loop { state := .ready, pending := none, fn, tmps := a.tmps, params := ⟨ps⟩, assign := asg, body := bd, defers := w.heap.size }))
    refine ⟨_, _, _, ρ1, run_enterLoop_outer fn a.tmps ⟨ps⟩ asg bd, ?_, by simp, rfl, by simp [ρ1], f1, f2, f3, fun ρ' ha => ?_⟩
    · intro i hi
      simp [ρ1, show i ≠ s.nid by omega, show i ≠ s.nid + 1 by omega]
    · simp only at ha
      have ha0 : Agree s.nid ρ ρ' := fun i hi => by rw [ha i (by omega)]; simp [ρ1, show i ≠ s.nid by omega, show i ≠ s.nid + 1 by omega]
      have e1 : ρ' s.nid = some w.heap.size := by rw [ha _ (by omega)]; simp [ρ1]
      have e2 : ρ' (s.nid + 1) = some (w.alloc (.deferred (some []))).heap.size := by rw [ha _ (by omega)]; simp [ρ1]
      obtain ⟨g1, g2, g3⟩ := hρ ρ' ha0
      refine ⟨?_, ⟨?_, rfl⟩⟩
      · refine Sim.new (g1.new e1 (ob := .deferred (some [])) (o := .defr) ⟨_, rfl, World.alloc_heap_new _ _, .inl hR.base⟩) e2 ?_
        refine ⟨_, _, rfl, World.alloc_heap_new _ _, ⟨rfl, rfl, rfl, rfl, rfl, by simpa using hR.size, fun t x hx => g3 t x (getT_opt hx)⟩, .inl ?_⟩
        have := hR.base
        simp
        omega
      · show [_] ++ a.defers = mkD ρ' (.mark s.nid) :: s.mks.map (mkD ρ')
        rw [g2.defers]
        simp [mkD, e1]
  · rename_i l0 hrd
    split at h
    case h_2 => cases h
    rename_i st pn ts ps0 asg0 bd0 hget
    cases h
    obtain ⟨b0, r0, hb0, hw0, _⟩ := (hρ ρ (Agree.refl _ _)).1.obj l0 _ hget
    have hrb : rb = some b0 := by
      have := (hρ ρ (Agree.refl _ _)).2.1.round
      rw [hrd] at this
      rw [this]
      exact hb0
    subst hrb
    have hb1 : ∀ o, Below w.heap.size w (w.alloc o) := fun o => (Below.refl _ _).alloc (Nat.le_refl _) o
    let ρ1 : Num := fun i => if i = s.nid then some w.heap.size else ρ i
    obtain ⟨f1, f2, f3⟩ := fin _ ρ1 (hb1 (.loop { state := .ready, pending := none, fn, tmps := a.tmps, params := ⟨ps⟩, assign := asg, body := bd, defers := r0.defers }))
    refine ⟨_, _, _, ρ1, run_enterLoop_inner hw0 fn a.tmps ⟨ps⟩ asg bd, ?_, by simp, rfl, by simp [ρ1], f1, f2, f3, fun ρ' ha => ?_⟩
    · intro i hi
      simp [ρ1, show i ≠ s.nid by omega]
    · simp only at ha
      have ha0 : Agree s.nid ρ ρ' := fun i hi => by rw [ha i (by omega)]; simp [ρ1, show i ≠ s.nid by omega]
      have e1 : ρ' s.nid = some w.heap.size := by rw [ha _ (by omega)]; simp [ρ1]
      obtain ⟨g1, g2, g3⟩ := hρ ρ' ha0
      refine ⟨?_, ⟨g2.defers, by have := g2.round; rw [hrd] at this; exact this⟩⟩
      refine g1.new e1 ?_
      exact ⟨_, _, rfl, World.alloc_heap_new _ _, ⟨rfl, rfl, rfl, rfl, rfl, by simpa using hR.size, fun t x hx => g3 t x (getT_opt hx)⟩, .inl hR.base⟩

theorem leaveL_sound {X : Cx} {B : Nat} {M : Nat → Prop} (hp : Par X.P B M) {w0 : Bas} {rb : Option Nat} {s1 s2 : St} {a : Act} {w : World} {l b : Nat} {r : CR} {x : AX} (h : leaveL s1 l r = some (x, s2)) {ρ2 : Num}
    (hR : Rep X.P X.J B M w0 rb ⟨s1.tmps, r.h, r.n, r.ds, r.obs ++ s1.obs, s1.lp, s1.rd, s1.mks, s1.bs⟩ a w) (hρ0 : w0.n ≤ r.n ∧ Agree w0.n w0.ρ ρ2) (hρ : ∀ ρ', Agree r.n ρ2 ρ' → Sim X.P B M ρ' r.h w ∧ FR ρ' rb (⟨s1.tmps, r.h, r.n, r.ds, r.obs ++ s1.obs, s1.lp, s1.rd, s1.mks, s1.bs⟩ : St) a ∧ ∀ t x, getT s1.tmps t = .v x → a.tmps.getD t undef = rv ρ' x) (hb : ρ2 l = some b) {Q : Exit → Act → World → Prop} (hQ : ∀ a' w', Rep X.P X.J B M w0 rb s2 a' w' → Q x.toExit a' w') :
    ∃ jump w4, (Instr.endLoop b).run X.P w = .ok jump w4 ∧ (match jump with | none => Q .normal a w4 | some c => c.wpIn (Fl rb) 0 X.P Q a w4) := by
  rw [leaveL_eq] at h
  split at h
  case h_2 => cases h
  rename_i st pn ts ps asg bd hget
  split at h
  · cases h
  rename_i hbusy
  obtain ⟨b', r', hw, e1, e2, _, _, _, hb', hlt, hturn⟩ := hR.loop' hp hρ0 hρ hget
  have hbb : b' = b := by
    have := hb' _ (Agree.refl _ _)
    rw [hb] at this
    exact (Option.some.inj this).symm
  subst hbb
  refine ⟨_, _, run_endLoop hw (by rw [e1]; intro e; subst e; cases hbusy), ?_⟩
  have hR2 := hturn .exhausted pn ⟨s1.tmps, r.h.set l (.loop .exhausted pn ts ps asg bd), r.n, r.ds, r.obs ++ s1.obs, s1.lp, s1.rd, s1.mks, s1.bs⟩ rfl rfl rfl rfl rfl rfl
  subst e2
  simp only [] at h
  split at h
  · rename_i hp0
    cases h
    simp only [hp0] at hR2 ⊢
    have := hQ a _ (by rw [hp0]; exact hR2)
    exact this
  · rename_i hp0
    cases h
    simp only [hp0] at hR2 ⊢
    exact wpIn_ret (hQ a _ (by rw [hp0]; exact hR2))
  · rename_i id hp0
    cases h
    simp only [hp0] at hR2 ⊢
    exact wpIn_exit (hQ a _ (by rw [hp0]; exact hR2))
  · cases h

theorem enterL_lt {s s1 : St} {ps : List Nat} {asg bd : Code} {l : Nat} (h : enterL s ps asg bd = some (l, s1)) : l < s1.nid := by
  rw [enterL_eq] at h
  split at h
  · cases h; simp
  · split at h
    · cases h; simp
    · cases h

theorem enterL_bs {s s1 : St} {ps : List Nat} {asg bd : Code} {l : Nat} (h : enterL s ps asg bd = some (l, s1)) : s1.bs = s.bs := by
  rw [enterL_eq] at h
  split at h
  · cases h; rfl
  · split at h
    · cases h; rfl
    · cases h

theorem rangeFunc_sound {X : Cx} (hX : CxOk X X.J) {B : Nat} {M : Nat → Prop} (hp : Par X.P B M) {w0 : Bas} {rb : Option Nat} {s s1 s' : St} {x : AX} {g : Operand} {ps : List Nat} {asg bd : Code} {fid l : Nat} {first cap : List Value} {r : CR}
    (hng : noGlob g = true) (hg : evo s.tmps [] g = some (.func (.func fid) ⟨first⟩ ⟨cap⟩)) (hent : enterL s ps asg bd = some (l, s1)) (hcl : X.cl fid (first ++ [.func (.yield l) ⟨[]⟩ ⟨[]⟩] ++ cap) s1.heap s1.nid s1.ds = some r) (h : leaveL s1 l r = some (x, s')) (hl : allP r.obs)
    {a : Act} {w : World} (hR : Rep X.P X.J B M w0 rb s a w) {Q : Exit → Act → World → Prop} (hQ : ∀ a' w', Rep X.P X.J B M w0 rb s' a' w' → Q x.toExit a' w') : (Code.rangeFunc g ⟨ps⟩ asg bd).wpIn (Fl rb) 0 X.P Q a w := by
  obtain ⟨hn, hfent, hcalls⟩ := hX.cl _ _ _ _ _ _ hcl hl
  refine wpIn_rangeFunc (fun fn _ => ?_)
  obtain ⟨b, mark, w1, ρ1, hrun, ha1, hnid, htm, hb, hB1, hI1, hK1, hsim⟩ := enterL_sound hp hR hent fn
  have hlt := enterL_lt hent
  have hgv := evo_rep hR hng hg
  obtain ⟨hρ0, hρ⟩ := hR.rep.choose_spec
  generalize hR.rep.choose = ρ at *
  have hgv1 := hgv ρ1 ha1
  simp only [rv, rvA, rFn] at hgv1
  have hargs : ∀ ρ', Agree s1.nid ρ1 ρ' → (⟨rvL ρ' (first ++ [.func (.yield l) ⟨[]⟩ ⟨[]⟩] ++ cap)⟩ : Array Value) = (⟨rvL ρ1 first⟩ : Array Value) ++ #[.func (.yield b) #[] #[]] ++ ⟨rvL ρ1 cap⟩ := fun ρ' ha => by
    have hgv2 := hgv ρ' (fun i hi => (ha i (Nat.lt_of_lt_of_le hi hnid)).trans (ha1 i hi))
    rw [hgv1] at hgv2
    simp only [rv, rvA, rFn] at hgv2
    injection hgv2 with _ e1 e2
    injection e1 with e1
    injection e2 with e2
    have hlb : ρ' l = some b := by rw [ha l hlt, hb]
    rw [e1, e2]
    simp [rvL_eq, rv, rvA, rvL, rFn, hlb]
  have hres : (resolve a.eval (rangeCall g b) 0).run X.P w1 = .ok ⟨.fn (.func fid) ⟨rvL ρ1 cap⟩, (⟨rvL ρ1 first⟩ : Array Value) ++ #[.func (.yield b) #[] #[]]⟩ w1 := by
    simp only [resolve, hgv1, Deferred.ofValue, Sem.run_pure]
    simp [Act.eval]
  have hinv : (invoke (.fn (.func fid) ⟨rvL ρ1 cap⟩) ((⟨rvL ρ1 first⟩ : Array Value) ++ #[.func (.yield b) #[] #[]])).run X.P w1 = .ok (.enter fid ⟨rvL ρ1 (first ++ [.func (.yield l) ⟨[]⟩ ⟨[]⟩] ++ cap)⟩) w1 := by
    rw [hargs ρ1 (Agree.refl _ _)]
    exact hfent _ _
  have hcall := hcalls B M ρ1 w1 (rvL ρ1 (first ++ [.func (.yield l) ⟨[]⟩ ⟨[]⟩] ++ cap)) hp hB1 hI1 (fun ρ' ha => ⟨(hsim ρ' ha).1, by
    have e1 := hargs ρ' ha
    rw [← hargs ρ1 (Agree.refl _ _)] at e1
    injection e1 with e1
    exact e1.symm⟩)
  refine ⟨b, mark, w1, _, w1, fid, _, w1, hrun, hres, fun _ _ => trivial, hinv, fun h => (by cases h), callsIn_Fl (hcall.mono fun e w' hh => ?_)⟩
  obtain ⟨ρ2, v, ha2, he, hk, hfin⟩ := hh
  subst he
  have hag : ∀ ρ', Agree r.n ρ2 ρ' → Agree s1.nid ρ1 ρ' := fun ρ' ha i hi => (ha i (Nat.lt_of_lt_of_le hi hn)).trans (ha2 i hi)
  have h0 : w0.n ≤ r.n ∧ Agree w0.n w0.ρ ρ2 := ⟨Nat.le_trans hρ0.1 (Nat.le_trans hnid hn), fun i hi => by
    have h1 : i < s.nid := Nat.lt_of_lt_of_le hi hρ0.1
    rw [ha2 i (by omega), ha1 i h1]
    exact hρ0.2 i hi⟩
  have h1 : ∀ ρ', Agree r.n ρ2 ρ' → Sim X.P B M ρ' r.h w' ∧ FR ρ' rb (⟨s1.tmps, r.h, r.n, r.ds, r.obs ++ s1.obs, s1.lp, s1.rd, s1.mks, s1.bs⟩ : St) { a with defers := mark ++ a.defers } ∧ ∀ t x, getT s1.tmps t = .v x → a.tmps.getD t undef = rv ρ' x := fun ρ' ha => by
    refine ⟨(hfin ρ' ha).2, ?_, ?_⟩
    · have := (hsim ρ' (hag ρ' ha)).2
      exact ⟨this.defers, this.round⟩
    · rw [htm]
      exact (hρ ρ' (fun i hi => (hag ρ' ha i (Nat.lt_of_lt_of_le hi hnid)).trans (ha1 i hi))).2.2
  have hR1 : Rep X.P X.J B M w0 rb ⟨s1.tmps, r.h, r.n, r.ds, r.obs ++ s1.obs, s1.lp, s1.rd, s1.mks, s1.bs⟩ { a with defers := mark ++ a.defers } w' :=
    ⟨by show w0.n = s1.bs; rw [enterL_bs hent]; exact hR.low, by rw [htm]; exact hR.plain, by rw [htm]; exact hR.size, Nat.le_trans hB1 hk.size, X.J.keeps hp hk hI1, hK1.trans hk, ρ2, h0, h1⟩
  exact leaveL_sound hp h hR1 h0 h1 (by rw [ha2 l hlt, hb]) hQ

/-! A function with labels, through which the run goes without a jump. -/

theorem stepR_scope {P : Program} {b : Frame} {a : Act} {k : List Item} {cs : List Frame} {w : World} {c : Code} : step P (lone (b.atR a (.code (.scope c) :: k)) cs w) = .next (lone (b.atR a (.code c :: .inScope c :: k)) cs w) :=
  step_lone_go (by simp [stepG, stepG.exec, Frame.atR])
theorem stepR_inScope {P : Program} {b : Frame} {a : Act} {k : List Item} {cs : List Frame} {w : World} {c : Code} : step P (lone (b.atR a (.inScope c :: k)) cs w) = .next (lone (b.atR a k) cs w) :=
  step_lone_go (by simp [stepG, stepG.exec, Frame.atR])

theorem wpIn_scope {F : Fence} {n : Nat} {P : Program} {Q : Exit → Act → World → Prop} {a : Act} {w : World} {c : Code} (h : c.wpIn F n P (Exit.noGoto Q) a w) : (Code.scope c).wpIn F n P Q a w := by
  intro b k cs hro hb hr
  have h0 : (lone (b.atR a (.code (.scope c) :: k)) cs w).fenced P F := fenced_calm hb hr rfl
  obtain ⟨e, a₁, w₁, hq, harr⟩ := h b (.inScope c :: k) cs hro hb hr
  cases e with
  | normal => exact ⟨.normal, a₁, w₁, hq, .head h0 stepR_scope (StepsIn.trans harr (.one (fenced_calm hb hr rfl) stepR_inScope))⟩
  | exit id =>
    have hx : exitTo id (.inScope c :: k) = exitTo id k := by simp [exitTo]
    exact ⟨.exit id, a₁, w₁, hq, fun k' hk => .head h0 stepR_scope (harr.1 k' (by rw [hx]; exact hk)),
      fun hr' hk => let ⟨k₁, h1, h2⟩ := harr.2 hr' (by rw [hx]; exact hk); ⟨k₁, h1, .head h0 stepR_scope h2⟩⟩
  | goto l => exact hq.elim
  | ret => exact ⟨_, a₁, w₁, hq, .of_steps (.one h0 stepR_scope) harr⟩
  | panic ch => exact ⟨_, a₁, w₁, hq, .of_steps (.one h0 stepR_scope) harr⟩
  | outgrown => exact ⟨_, a₁, w₁, hq, .of_steps (.one h0 stepR_scope) harr⟩

theorem evCode_sound {X : Cx} {L : Hints} (hX : CxOk X X.J) (hm : X.P.follows .mixedOrders = true) {B : Nat} {M : Nat → Prop} (hp : Par X.P B M) {w0 : Bas} {rb : Option Nat} : ∀ (f : Nat) (c : Code) (s : St) (x : AX) (s' : St), evCode X L f c s = some (x, s') → allP s'.obs →
    ∀ a w, Rep X.P X.J B M w0 rb s a w → ∀ Q : Exit → Act → World → Prop, (∀ a' w', Rep X.P X.J B M w0 rb s' a' w' → Q x.toExit a' w') → c.wpIn (Fl rb) 0 X.P Q a w := by
  intro f
  induction f with
  | zero => intro c s x s' h; simp [evCode] at h
  | succ f ih =>
    intro c s x s' h hl a w hR Q hQ
    unfold evCode at h
    split at h
    · cases h; exact wpIn_skip (hQ a w hR)
    · cases h; exact wpIn_label (hQ a w hR)
    · split at h
      · rename_i s1 hr; cases h; exact evRegion_sound hX hm hr hl hp hR hQ
      · split at h
        · split at h
          · rename_i s1 hr; cases h; exact evDefer_sound hX hr hl hp hR hQ
          · cases h
        · cases h
    · split at h
      · rename_i s1 h1
        exact wpIn_seq (ih _ _ _ _ h1 (evCode_obs _ _ _ _ _ h hl) a w hR _ (fun a' w' hR' => ih _ _ _ _ h hl a' w' hR' Q hQ))
      · rename_i hno
        have hxn : x ≠ .normal := fun e => by subst e; exact hno s' h
        refine wpIn_seq (ih _ _ _ _ h hl a w hR _ (fun a' w' hR' => ?_))
        cases x with
        | normal => exact absurd rfl hxn
        | exit id => exact hQ a' w' hR'
        | ret => exact hQ a' w' hR'
    · rename_i o c1 c2
      split at h
      case h_2 => cases h
      rename_i b hb
      have hval : noGlob o = true → a.eval o = .bool b := fun hg => by
        have := evo_rep hR hg hb _ (Agree.refl _ _)
        simpa [rv] using this
      have hg : noGlob o = true := by
        cases o with
        | global g => simp [evo] at hb
        | _ => rfl
      have hv := hval hg
      split at h
      · rename_i d ds hds
        split at h
        · have hob := evCode_obs _ _ _ _ _ h hl
          have hb' : b = true := hob.1
          subst hb'
          exact wpIn_cond_true hv (ih _ _ _ _ h hl a w (hR.same rfl rfl rfl rfl rfl rfl) Q hQ)
        · have hob := evCode_obs _ _ _ _ _ h hl
          have hb' : b = false := hob.1
          subst hb'
          exact wpIn_cond_false hv (ih _ _ _ _ h hl a w (hR.same rfl rfl rfl rfl rfl rfl) Q hQ)
      · split at h
        · exact wpIn_cond_true hv (ih _ _ _ _ h hl a w hR Q hQ)
        · exact wpIn_cond_false hv (ih _ _ _ _ h hl a w hR Q hQ)
    · rename_i id c1
      split at h
      · rename_i i s1 h1
        split at h
        · rename_i hi
          have hi := Nat.eq_of_beq_eq_true hi
          subst hi
          cases h
          refine wpIn_block (ih _ _ _ _ h1 hl a w hR _ (fun a' w' hR' => ?_))
          simp only [AX.toExit, Exit.inBlock, if_true]
          exact hQ a' w' hR'
        · rename_i hi
          cases h
          refine wpIn_block (ih _ _ _ _ h1 hl a w hR _ (fun a' w' hR' => ?_))
          simp only [AX.toExit, Exit.inBlock]
          rw [if_neg (fun e => by subst e; rw [Nat.beq_refl] at hi; cases hi)]
          exact hQ a' w' hR'
      · rename_i hno
        refine wpIn_block (ih _ _ _ _ h hl a w hR _ (fun a' w' hR' => ?_))
        cases x with
        | normal => exact hQ a' w' hR'
        | exit id => exact absurd h (hno id s')
        | ret => exact hQ a' w' hR'
    · refine wpIn_scope (ih _ _ _ _ h hl a w hR _ (fun a' w' hR' => ?_))
      cases x with
      | normal => exact hQ a' w' hR'
      | exit id => exact hQ a' w' hR'
      | ret => exact hQ a' w' hR'
    · rename_i c1
      split at h
      · split at h
        · rename_i x1 s1 hs1
          cases h
          have hlt : LoopTo X c1 s.core x s1.core := hl.1
          refine wpIn_mono (hlt B M w0 rb a w hp (hR.same rfl rfl rfl rfl rfl rfl)) (fun e a' w' ⟨he, hR'⟩ => ?_)
          subst he
          exact hQ a' w' (hR'.same rfl rfl rfl rfl rfl rfl)
        · cases h
      · exact wpIn_loop_rounds f (evRounds_sound (fun s x s' => evCode_obs f c1 s x s') (fun s x s' hs hls a w hR Q' hQ' => ih c1 s x s' hs hls a w hR Q' hQ') f s x s' h hl hQ a w hR).2
    · cases h; exact wpIn_exit (hQ a w hR)
    · cases h; exact wpIn_ret (hQ a w hR)
    · rename_i g ps asg bd
      split at h
      case h_2 => cases h
      rename_i fid first cap hng hg
      split at h
      · cases h
      rename_i l s1 hent
      split at h
      · cases h
      rename_i r hcl
      have hlr := hl
      rw [leaveL_obs h, allP_append] at hlr
      exact rangeFunc_sound hX hp hng hg hent hcl h hlr.1 hR hQ
    · cases h

def evResult (P : Program) (auto : Bool) (ts : List TV) (H : Heap) : List ResultVar → Option (List Value × List Prop)
  | [] => some ([], [])
  | .tmp t :: r => match rd [] (getT ts t), evResult P auto ts H r with
    | some v, some (vs, l) => some (v :: vs, l)
    | _, _ => none
  | .cell t ty :: r => match rd [] (getT ts t) with
    | some x => match evLoad P auto H ty x, evResult P auto ts H r with
      | some (v, l), some (vs, l') => some (v :: vs, l ++ l')
      | _, _ => none
    | none => none

def oneOf : List Value → Value
  | [v] => v
  | vs => .tuple ⟨vs⟩

theorem rd_plain {ts : List TV} {a : Act} (hR : ∀ t, plainT (getT ts t) = true) {ρ : Num} (hv : ∀ t x, getT ts t = .v x → a.tmps.getD t undef = rv ρ x) {t : Nat} {v : Value} (h : rd [] (getT ts t) = some v) :
    a.tmps.getD t undef = rv ρ v := by
  have hp := hR t
  have h1 := hv t
  generalize getT ts t = tv at *
  cases tv with
  | unk => simp [rd] at h
  | v y => simp only [rd] at h; cases h; exact h1 _ rfl
  | sp l y => cases hp
  | key j l b => cases hp

theorem evLoad_ptr {P : Program} {auto : Bool} {H : Heap} {t : TypeId} {x v : Value} {l : List Prop} (h : evLoad P auto H t x = some (v, l)) : ∃ id off, x = .pointer (some ⟨id, off, none⟩) := by
  unfold evLoad at h
  simp only [undF_eq, infF_eq] at h
  split at h
  · exact ⟨_, _, rfl⟩
  · cases h

theorem evResult_sound {P : Program} {auto : Bool} {B : Nat} {M : Nat → Prop} {ts : List TV} {H : Heap} {a : Act} {w : World} (hR : ∀ t, plainT (getT ts t) = true) {ρ : Num} (hS : Sim P B M ρ H w) (hv : ∀ t x, getT ts t = .v x → a.tmps.getD t undef = rv ρ x) :
    ∀ (l : List ResultVar) (vs : List Value) (ob : List Prop), evResult P auto ts H l = some (vs, ob) → allP ob →
      (l.mapM fun (r : ResultVar) => (match r with | .tmp t => pure (a.tmps.getD t undef) | .cell p ty => do loadVar ty (← asAddr (a.tmps.getD p undef)) : Sem Value)).run P w = .ok (rvL ρ vs) w
  | [], vs, ob, h, _ => by simp only [evResult] at h; cases h; rfl
  | .tmp t :: r, vs, ob, h, hl => by
    simp only [evResult] at h
    split at h
    case h_2 => cases h
    rename_i v vs' l' h1 h2
    cases h
    have ih := evResult_sound hR hS hv r vs' _ h2 hl
    simp only [List.mapM_cons, Sem.run_bind, Sem.run_pure, Result.andThen_ok, rd_plain hR hv h1]
    rw [ih]
    rfl
  | .cell t ty :: r, vs, ob, h, hl => by
    simp only [evResult] at h
    split at h
    case h_2 => cases h
    rename_i x h1
    split at h
    case h_2 => cases h
    rename_i v l1 vs' l2 h2 h3
    cases h
    rw [allP_append] at hl
    have ih := evResult_sound hR hS hv r vs' l2 h3 hl.2
    have hld := evLoad_sound hS h2 hl.1
    simp only [List.mapM_cons, Sem.run_bind, rd_plain hR hv h1]
    obtain ⟨id, off, rfl⟩ := evLoad_ptr h2
    have hadr : ((asAddr (rv ρ (.pointer (some ⟨id, off, none⟩)))).run P w).andThen (fun a w' => (loadVar ty a).run P w') = .ok (rv ρ v) w := by
      simp only [rv, rAddr] at hld ⊢
      cases hid : ρ id with
      | none => rw [hid] at hld; simp [Instr.loadAt, Instr.sureAddr, stuck, Sem.run] at hld
      | some b =>
        rw [hid] at hld
        simp only [Option.map_some, Instr.loadAt, Instr.sureAddr, pure_bind] at hld
        simp only [Option.map_some, asAddr, Sem.run_pure, Result.andThen_ok]
        exact hld
    rw [hadr]
    simp only [Result.andThen_ok]
    rw [ih]
    rfl

def lowFn (n : Nat) : Fn → Bool
  | .yield l => Nat.blt l n
  | _ => true

mutual
/-- It names no number from n on. -/
def lowV (n : Nat) : Value → Bool
  | .pointer (some a) => Nat.blt a.block n
  | .slice (some a) _ _ => Nat.blt a.block n && (match a.spot with | none => true | some k => Nat.blt k n)
  | .map (some r) => Nat.blt r n
  | .func fn f c => lowFn n fn && lowA n f && lowA n c
  | .chan (some _) => false
  | .iface _ v => lowV n v
  | .agg cs => lowA n cs
  | .tuple vs => lowA n vs
  | _ => true
def lowA (n : Nat) : Array Value → Bool
  | ⟨l⟩ => lowL n l
def lowL (n : Nat) : List Value → Bool
  | [] => true
  | v :: l => lowV n v && lowL n l
end

def lowH (n : Nat) : Heap → Bool
  | [] => true
  | (i, o) :: r => match Nat.blt i n with
    | false => lowH n r
    | true => match o with
      | .cells cs _ => lowL n cs && lowH n r
      | _ => lowH n r

/-- What a call has laid and nobody sees is left out. -/
def gcH (v : Value) (n : Nat) (h : Heap) : Heap :=
  match lowH n h with
  | false => h
  | true => match pureV v with
    | true => h.filter fun p => Nat.blt p.1 n
    | false => match closeN h 400 (numsV v []) [] with
      | keep => h.filter fun p => Nat.blt p.1 n || memN p.1 keep

theorem filter_less (f : Nat → Bool) : ∀ (h : Heap) (i : Nat) (o : AObj), Heap.get (h.filter fun p => f p.1) i = some o → Heap.get h i = some o
  | [], _, _, hi => hi
  | (j, q) :: h, i, o, hi => by
    rw [List.filter_cons] at hi
    rw [Heap.get_cons]
    split at hi
    · rw [Heap.get_cons] at hi
      split at hi
      · rename_i e; rw [if_pos e]; exact hi
      · rename_i e; rw [if_neg e]; exact filter_less f h i o hi
    · rename_i hb
      split
      · rename_i e
        subst e
        exfalso
        have hlt : ∀ (l : Heap) (o : AObj), Heap.get (l.filter fun p => f p.1) j = some o → f j = true := by
          intro l
          induction l with
          | nil => intro o h; simp [Heap.get] at h
          | cons p l ihl =>
            obtain ⟨k, q'⟩ := p
            intro o h
            rw [List.filter_cons] at h
            split at h
            · rename_i hk
              rw [Heap.get_cons] at h
              split at h
              · rename_i e; subst e; exact hk
              · exact ihl o h
            · exact ihl o h
        exact hb (hlt h o hi)
      · exact filter_less f h i o hi

theorem gcH_less (v : Value) (n : Nat) (h : Heap) : ∀ i o, (gcH v n h).get i = some o → h.get i = some o := by
  intro i o hi
  unfold gcH at hi
  split at hi
  · exact hi
  · split at hi
    · exact filter_less (fun k => Nat.blt k n) h i o hi
    · exact filter_less (fun k => Nat.blt k n || memN k _) h i o hi

/-- The marks are come to. -/
def killAll : List Mk → Heap → Option Heap
  | [], H => some H
  | .mark i :: r, H => match H.get i with
    | some .defr => killAll r (H.set i .dead)
    | _ => none
  | .call _ _ _ :: r, H => killAll r H

/-- A function that, called at the end of one which returns, does nothing that is seen. -/
def Quiet (P : Program) (f : FuncId) (k : Nat) : Prop :=
  ∀ (args : Array Value) (w : World), args.size = k → (callFunc f args).run P w = .ok (.enter f args) w ∧
    ∃ w1, Below w.heap.size w w1 ∧ CallsDIn Fence.wide 0 P f args .returning w fun e u' w' => (∃ v, e = .returned v) ∧ u' = .returning ∧ w' = w1

def quiets (P : Program) : List Mk → List Prop → List Prop
  | [], l => l
  | .mark _ :: r, l => quiets P r l
  | .call f cap args :: r, l => Quiet P f (args.length + cap.length) :: quiets P r l

theorem quiets_spec {P : Program} : ∀ {mks : List Mk} {l : List Prop}, allP (quiets P mks l) → (∀ f cap args, Mk.call f cap args ∈ mks → Quiet P f (args.length + cap.length)) ∧ allP l
  | [], l, h => ⟨(fun _ _ _ hm => by cases hm), h⟩
  | .mark _ :: r, l, h => by
    obtain ⟨h1, h2⟩ := quiets_spec (mks := r) h
    exact ⟨fun f cap args hm => h1 f cap args (by simpa using hm), h2⟩
  | .call f0 _ _ :: r, l, h => by
    obtain ⟨h1, h2⟩ := quiets_spec (mks := r) h.2
    refine ⟨fun f cap args hm => ?_, h2⟩
    rcases List.mem_cons.1 hm with e | hm
    · cases e; exact h.1
    · exact h1 f cap args hm

def evFn (X : Cx) (L : Hints) (fuel : Nat) (f : FuncId) (args : List Value) (H : Heap) (n : Nat) (ds : List Bool) : Option CR :=
  match nthF X.P.funcs.toList f with
  | none => none
  | some fn => match fn.body with
    | none => none
    | some c => match evCode X L fuel c ⟨args.map .v ++ List.replicate (fn.ntmps - args.length) (.v undef), H, n, ds, [], 0, none, [], n⟩ with
      | none => none
      | some (x, ⟨tm, hp, nid, ds', obs, _, _, mk, _⟩) => match x with
        | .exit _ => none
        | _ => match Nat.ble n nid with
          | false => none
          | true => match killAll mk hp with
            | none => none
            | some H' => match evResult X.P X.auto tm H' fn.results.toList with
              | none => none
              | some (vs, l) => some ⟨oneOf vs, gcH (oneOf vs) n H', nid, quiets X.P mk (l ++ obs), ds'⟩

theorem evFn_eq (X : Cx) (L : Hints) (fuel : Nat) (f : FuncId) (args : List Value) (H : Heap) (n : Nat) (ds : List Bool) : evFn X L fuel f args H n ds =
    match X.P.funcs[f]? with
    | none => none
    | some fn => match fn.body with
      | none => none
      | some c => match evCode X L fuel c ⟨args.map .v ++ List.replicate (fn.ntmps - args.length) (.v undef), H, n, ds, [], 0, none, [], n⟩ with
        | none => none
        | some (x, s) => match x with
          | .exit _ => none
          | _ => match Nat.ble n s.nid with
            | false => none
            | true => match killAll s.mks s.heap with
              | none => none
              | some H' => match evResult X.P X.auto s.tmps H' fn.results.toList with
                | none => none
                | some (vs, l) => some ⟨oneOf vs, gcH (oneOf vs) n H', s.nid, quiets X.P s.mks (l ++ s.obs), s.ds⟩ := by
  unfold evFn
  rw [nthF_eq, show X.P.funcs.toList[f]? = X.P.funcs[f]? by simp]
  cases X.P.funcs[f]? with
  | none => rfl
  | some fn =>
    dsimp only
    cases fn.body with
    | none => rfl
    | some c =>
      dsimp only
      generalize evCode X L fuel c _ = z
      cases z with
      | none => rfl
      | some p =>
        obtain ⟨x, s⟩ := p
        cases x <;> rfl

theorem leaves_marks {P : Program} {fn : Func} {tmps : Array Value} {R : Ending → World → Prop} {B : Nat} {M : Nat → Prop} : ∀ (mks : List Mk) (H H' : Heap) (w : World), (∀ f cap args, Mk.call f cap args ∈ mks → Quiet P f (args.length + cap.length)) → B ≤ w.heap.size → killAll mks H = some H' → ∀ ρ, Sim P B M ρ H w →
    ∃ w', Keeps B M w w' ∧ (∀ ρ', (∀ i, H.get i = some .defr → ρ' i = ρ i) → Sim P B M ρ' H w → Sim P B M ρ' H' w') ∧ (LeavesInM Fence.wide 0 P fn tmps R [] .returning w' → LeavesInM Fence.wide 0 P fn tmps R (mks.map (mkD ρ)) .returning w)
  | [], H, H', w, _, _, h, ρ, hS => by
    simp only [killAll] at h
    cases h
    exact ⟨w, Keeps.refl _ _ _, fun _ _ h => h, fun h => h⟩
  | .call f cap args :: r, H, H', w, hq, hB, h, ρ, hS => by
    simp only [killAll] at h
    obtain ⟨q1, w1, q2, q3⟩ := hq f cap args (by simp) ((⟨rvL ρ args⟩ : Array Value) ++ ⟨rvL ρ cap⟩) w (by simp [rvL_eq])
    have hk : Keeps B M w w1 := ⟨q2.os, q2.tape, q2.output, q2.size, fun k hk _ => q2.block k (Nat.lt_of_lt_of_le hk hB)⟩
    obtain ⟨w', k1, k2, k3⟩ := leaves_marks (fn := fn) (tmps := tmps) (R := R) r H H' w1 (fun f cap args hm => hq f cap args (List.mem_cons_of_mem _ hm)) (Nat.le_trans hB q2.size) h ρ (hS.below q2)
    refine ⟨w', hk.trans k1, fun ρ' he hS' => k2 ρ' he (hS'.below q2), fun hh => ?_⟩
    simp only [List.map_cons]
    refine ⟨by simp, .inr ⟨(fun hd => by cases hd), .func f, ⟨rvL ρ cap⟩, f, _, rfl, q1, fun _ _ => trivial, ?_⟩⟩
    refine ⟨q3.1, fun c cs hu hro => ?_⟩
    obtain ⟨e, u', w2, fr, ⟨⟨v, hv⟩, hu', hw'⟩, hs⟩ := q3.2 c cs hu hro
    subst hv hu' hw'
    exact ⟨_, _, _, fr, k3 hh, hs⟩
  | .mark i :: r, H, H', w, hq, hB, h, ρ, hS => by
    simp only [killAll] at h
    split at h
    case h_2 => cases h
    rename_i hget
    have turn : ∀ ρ', Sim P B M ρ' H w → ∀ b, ρ' i = some b → w.heap[b]? = some (.deferred (some [])) → (B ≤ b ∨ M b) → Sim P B M ρ' (H.set i .dead) (w.putObj b (.deferred none)) := fun ρ' hS' b hb hw hown =>
      hS'.turn hget rfl hb ⟨b, _, rfl, World.putObj_heap_same (getElem?_lt_size hw), hown⟩ (fun k hk => World.putObj_heap_other hk)
    obtain ⟨b, hb, hw, hown⟩ := hS.obj i _ hget
    have hk : Keeps B M w (w.putObj b (.deferred none)) :=
      ⟨rfl, rfl, rfl, by simp, fun k hk hm => World.putObj_heap_other (fun e => by subst e; exact hown.elim (fun h => by omega) (fun h => hm h))⟩
    obtain ⟨w', k1, k2, k3⟩ := leaves_marks r _ H' _ (fun f cap args hm => hq f cap args (List.mem_cons_of_mem _ hm)) (by simpa using hB) h ρ (turn ρ hS b hb hw hown)
    refine ⟨w', hk.trans k1, fun ρ' he hS' => k2 ρ' (fun j hj => ?_) (turn ρ' hS' b ((he i hget).trans hb) hw hown), fun hh => ?_⟩
    · rw [Heap.get_set H i .dead .defr hget] at hj
      split at hj
      · cases hj
      · exact he j hj
    · simp only [List.map_cons, mkD, hb, Option.getD_some]
      exact ⟨by simp, .inl ⟨b, _, rfl, run_takeDeferred hw, k3 hh⟩⟩

theorem getT_v {ts : List Value} {k t : Nat} {x : Value} (h : getT (ts.map .v ++ List.replicate k (.v undef)) t = .v x) (ρ : Num) : (((⟨rvL ρ ts⟩ : Array Value) ++ Array.replicate k undef)).getD t undef = rv ρ x := by
  simp only [getT_def] at h
  rw [Array.getD_eq_getD_getElem?]
  have e : ((⟨rvL ρ ts⟩ : Array Value) ++ Array.replicate k undef)[t]? = (rvL ρ ts ++ List.replicate k undef)[t]? := by
    rw [← Array.getElem?_toList]
    simp
  rw [e]
  by_cases ht : t < ts.length
  · rw [List.getElem?_append_left (by simpa using ht)] at h
    rw [List.getElem?_append_left (by rw [rvL_eq]; simpa using ht)]
    simp only [List.getElem?_map, rvL_eq] at h ⊢
    have hs : ts[t]? = some ts[t] := by simp [ht]
    rw [hs] at h ⊢
    simp only [Option.map_some, Option.getD_some] at h ⊢
    cases h
    rfl
  · rw [List.getElem?_append_right (by simpa using ht)] at h
    rw [List.getElem?_append_right (by rw [rvL_eq]; simpa using ht)]
    simp only [rvL_eq, List.length_map] at h ⊢
    by_cases hk : t - ts.length < k
    · rw [List.getElem?_replicate, if_pos hk] at h ⊢
      simp only [Option.getD_some] at h ⊢
      cases h
      rw [rv_undef]
    · rw [List.getElem?_replicate, if_neg hk] at h
      cases h

theorem run_results {P : Program} {fn : Func} {tmps : Array Value} {w : World} {vs : List Value} (h : (fn.results.toList.mapM fun (r : ResultVar) => (match r with | .tmp t => pure (tmps.getD t undef) | .cell p ty => do loadVar ty (← asAddr (tmps.getD p undef)) : Sem Value)).run P w = .ok vs w) :
    (results fn tmps).run P w = .ok (oneOf vs) w := by
  unfold results
  rw [Array.mapM_eq_mapM_toList, Sem.run_bind, Sem.run_map]
  refine Eq.trans (congrArg (fun r : Result (List Value) => (r.andThen fun a w' => .ok a.toArray w').andThen fun (a : Array Value) w' => Sem.run P (pure (if h : a.size = 1 then a[0] else Value.tuple a)) w') h) ?_
  simp only [Result.andThen_ok, Sem.run_pure]
  congr 1
  cases vs with
  | nil => rfl
  | cons v vs =>
    cases vs with
    | nil => rfl
    | cons u vs => rfl

theorem evFn_sound {X : Cx} {L : Hints} (hX : CxOk X X.J) (hm : X.P.follows .mixedOrders = true) {fuel f n : Nat} {args : List Value} {H : Heap} {ds : List Bool} {r : CR} (h : evFn X L fuel f args H n ds = some r) (hl : allP r.obs)
    {B : Nat} {M : Nat → Prop} {ρ : Num} {w : World} {vs : List Value} (hp : Par X.P B M) (hB : B ≤ w.heap.size) (hI : X.J.I w) (hS : ∀ ρ', Agree n ρ ρ' → Sim X.P B M ρ' H w ∧ vs = rvL ρ' args) :
    n ≤ r.n ∧ Calls X.P f ⟨vs⟩ w fun e w' => ∃ ρ1 v, Agree n ρ ρ1 ∧ e = .returned v ∧ Keeps B M w w' ∧ ∀ ρ', Agree r.n ρ1 ρ' → v = rv ρ' r.v ∧ Sim X.P B M ρ' r.h w' := by
  rw [evFn_eq] at h
  split at h
  case h_1 => cases h
  rename_i fn hfn
  split at h
  case h_1 => cases h
  rename_i c hc
  split at h
  case h_1 => cases h
  rename_i x s hcode
  have key : (∀ id, x ≠ .exit id) → ∀ (hn : n ≤ s.nid) (H' : Heap) (us : List Value) (l : List Prop), killAll s.mks s.heap = some H' → evResult X.P X.auto s.tmps H' fn.results.toList = some (us, l) → r = ⟨oneOf us, gcH (oneOf us) n H', s.nid, quiets X.P s.mks (l ++ s.obs), s.ds⟩ →
      Calls X.P f ⟨vs⟩ w fun e w' => ∃ ρ1 v, Agree n ρ ρ1 ∧ e = .returned v ∧ Keeps B M w w' ∧ ∀ ρ', Agree r.n ρ1 ρ' → v = rv ρ' r.v ∧ Sim X.P B M ρ' r.h w' := by
    intro hne hn H' us l hkill hres hr
    subst hr
    obtain ⟨hqu, hl⟩ := quiets_spec hl
    rw [allP_append] at hl
    refine callsIn_wide.1 (callsIn_of_wp_marks (n := 0) hfn hc trivial ?_)
    have hR0 : Rep X.P X.J B M ⟨w, n, ρ, []⟩ none ⟨args.map .v ++ List.replicate (fn.ntmps - args.length) (.v undef), H, n, ds, [], 0, none, [], n⟩ { tmps := (⟨vs⟩ : Array Value) ++ Array.replicate (fn.ntmps - (⟨vs⟩ : Array Value).size) undef, defers := [] } w := by
      have hlen : vs.length = args.length := by rw [(hS ρ (Agree.refl _ _)).2, rvL_eq]; simp
      refine ⟨rfl, fun t => ?_, by simp [hlen], hB, hI, Keeps.refl _ _ _, ρ, ⟨Nat.le_refl _, Agree.refl _ _⟩, fun ρ' ha => ⟨(hS ρ' ha).1, ⟨rfl, rfl⟩, fun t x hx => ?_⟩⟩
      · simp only [getT_def]
        rcases hgt : (args.map TV.v ++ List.replicate (fn.ntmps - args.length) (TV.v undef))[t]? with _ | tv
        · rfl
        · have hmem := List.mem_of_getElem? hgt
          simp only [List.mem_append, List.mem_map, List.mem_replicate] at hmem
          rcases hmem with ⟨y, _, rfl⟩ | ⟨_, rfl⟩ <;> rfl
      · have := getT_v hx ρ'
        rw [← (hS ρ' ha).2] at this
        simpa [hlen] using this
    refine evCode_sound (rb := none) hX hm hp fuel c _ x s hcode hl.2 _ w hR0 _ (fun a' w' hR' => ?_)
    obtain ⟨ρ2, hρ20, hρ2⟩ := hR'.rep
    have hfin : ∀ R : Ending → World → Prop, (∀ e w', (∃ ρ1 v, Agree n ρ ρ1 ∧ e = .returned v ∧ Keeps B M w w' ∧ ∀ ρ', Agree s.nid ρ1 ρ' → v = rv ρ' (oneOf us) ∧ Sim X.P B M ρ' (gcH (oneOf us) n H') w') → R e w') → LeavesInM Fence.wide 0 X.P fn a'.tmps R a'.defers .returning w' := by
      intro R hRR
      obtain ⟨hS2, hF2, hv2⟩ := hρ2 ρ2 (Agree.refl _ _)
      obtain ⟨w2, k1, k2, k3⟩ := leaves_marks (fn := fn) (tmps := a'.tmps) (R := R) s.mks _ H' w' hqu hR'.base hkill ρ2 hS2
      rw [hF2.defers]
      refine k3 ?_
      have hsim : ∀ ρ', Agree s.nid ρ2 ρ' → Sim X.P B M ρ' H' w2 := fun ρ' ha => by
        refine k2 ρ' (fun i hi => ?_) (hρ2 ρ' ha).1
        exact ha i ((hR'.known hi).elim id (fun h => by rcases h with ⟨_, _, h⟩ | ⟨_, h⟩ | ⟨_, _, _, _, h⟩ | ⟨_, _, _, _, h⟩ <;> cases h))
      have each : ∀ ρ', Agree s.nid ρ2 ρ' → (results fn a'.tmps).run X.P w2 = .ok (rv ρ' (oneOf us)) w2 := fun ρ' ha => by
        have := run_results (evResult_sound hR'.plain (hsim ρ' ha) (hρ2 ρ' ha).2.2 _ us l hres hl.1)
        rw [this]
        congr 1
        cases us with
        | nil => simp [oneOf, rvL, rv, rvA]
        | cons u us =>
          cases us with
          | nil => simp [oneOf, rvL]
          | cons u2 us => simp [oneOf, rvL, rv, rvA]
      have e0 := each ρ2 (Agree.refl _ _)
      refine ⟨_, e0, hRR _ _ ⟨ρ2, _, hρ20.2, rfl, hR'.keeps.trans k1, fun ρ' ha => ⟨?_, (hsim ρ' ha).less (gcH_less _ _ _)⟩⟩⟩
      have e1 := each ρ' ha
      rw [e0] at e1
      injection e1
    cases x with
    | normal => exact hfin _ (fun _ _ h => h)
    | ret => exact hfin _ (fun _ _ h => h)
    | exit id => exact absurd rfl (hne id)
  have fin : (∀ id, x ≠ .exit id) → (match Nat.ble n s.nid with
          | false => none
          | true => match killAll s.mks s.heap with
            | none => none
            | some H' => match evResult X.P X.auto s.tmps H' fn.results.toList with
              | none => none
              | some (vs, l) => some (⟨oneOf vs, gcH (oneOf vs) n H', s.nid, quiets X.P s.mks (l ++ s.obs), s.ds⟩ : CR)) = some r →
      n ≤ r.n ∧ Calls X.P f ⟨vs⟩ w fun e w' => ∃ ρ1 v, Agree n ρ ρ1 ∧ e = .returned v ∧ Keeps B M w w' ∧ ∀ ρ', Agree r.n ρ1 ρ' → v = rv ρ' r.v ∧ Sim X.P B M ρ' r.h w' := by
    intro hne h
    split at h
    · cases h
    rename_i hb
    have hn := Nat.le_of_ble_eq_true hb
    split at h
    case h_1 => cases h
    rename_i H' hkill
    split at h
    case h_1 => cases h
    rename_i us l hres
    have hr := (Option.some.inj h).symm
    refine ⟨by rw [hr]; exact hn, key hne hn H' us l hkill hres hr⟩
  cases x with
  | normal => exact fin (fun _ e => by cases e) h
  | ret => exact fin (fun _ e => by cases e) h
  | exit id => cases h

end
end Go.Proofs.YtaopinmjgjpiiaaGreatDoor.Ev
