/-
  Several texts in one (merge.py): SlF, SlA, SlB.
-/
import Derived.Test.YtlbmpbkfkmabaaaGreatDoorVaI
import Derived.Test.YtlbmpbkfkmabaaaGreatDoorShK
import Derived.Test.YtlbmpbkfkmabaaaGreatDoorEvM
import Derived.Deep.Strs
import Derived.ChangeStays
import Derived.ReadAgain

/-
  Formats as arguments, opened and shut.
-/
namespace Go.Proofs.YtlbmpbkfkmabaaaGreatDoor
open Go.ChangeShapes Go.WideShapes Go.ChangeAt Go.RowKit Go.Joins

section
variable {H : Type} {enc : TypeId × Value → H} {w : World} {W : World} {base : Nat} {spare : Nat → Bool} {held : Bool}

theorem trod_struct4 {P : Program} {t : TypeId} {f0 f1 f2 f3 : Field} {fuel : Nat} {cs : List Value} {x : DataW H × List MemPlace} (ht : P.underlying t = some (.struct #[f0, f1, f2, f3])) (h : DataW.trod enc P w base spare held fuel t cs = some x) :
    ∃ y0 y1 y2 y3 n, x = (.agg [y0.1, y1.1, y2.1, y3.1], y0.2 ++ (y1.2 ++ (y2.2 ++ y3.2))) ∧ cs.length = P.cellsOf t ∧ DataW.trod enc P w base spare held n f0.type ((cs.drop f0.offset).take (P.cellsOf f0.type)) = some y0 ∧
      DataW.trod enc P w base spare held n f1.type ((cs.drop f1.offset).take (P.cellsOf f1.type)) = some y1 ∧ DataW.trod enc P w base spare held n f2.type ((cs.drop f2.offset).take (P.cellsOf f2.type)) = some y2 ∧
      DataW.trod enc P w base spare held n f3.type ((cs.drop f3.offset).take (P.cellsOf f3.type)) = some y3 := by
  obtain ⟨xs, n, _, rfl, hl, hlen, hf⟩ := DataW.trod_struct ht h
  match xs, hlen with
  | [y0, y1, y2, y3], _ => exact ⟨y0, y1, y2, y3, n, by simp, hl, by simpa using hf 0 f0 rfl, by simpa using hf 1 f1 rfl, by simpa using hf 2 f2 rfl, by simpa using hf 3 f3 rfl⟩
theorem trod_struct4_mk {P : Program} {t : TypeId} {f0 f1 f2 f3 : Field} {n : Nat} {cs : List Value} {y0 y1 y2 y3 : DataW H × List MemPlace} (ht : P.underlying t = some (.struct #[f0, f1, f2, f3])) (hl : cs.length = P.cellsOf t)
    (h0 : DataW.trod enc P w base spare held n f0.type ((cs.drop f0.offset).take (P.cellsOf f0.type)) = some y0) (h1 : DataW.trod enc P w base spare held n f1.type ((cs.drop f1.offset).take (P.cellsOf f1.type)) = some y1)
    (h2 : DataW.trod enc P w base spare held n f2.type ((cs.drop f2.offset).take (P.cellsOf f2.type)) = some y2) (h3 : DataW.trod enc P w base spare held n f3.type ((cs.drop f3.offset).take (P.cellsOf f3.type)) = some y3) :
    DataW.trod enc P w base spare held (n + 1) t cs = some (.agg [y0.1, y1.1, y2.1, y3.1], y0.2 ++ (y1.2 ++ (y2.2 ++ y3.2))) := by
  have := trod_struct_mk (enc := enc) (w := w) (base := base) (spare := spare) (held := held) (n := n) (xs := [y0, y1, y2, y3]) ht hl (by simp [h0, h1, h2, h3])
  simpa using this

theorem array4 {α : Type} {cs : Array α} (h : cs.size = 4) : ∃ c0 c1 c2 c3, cs = #[c0, c1, c2, c3] := by
  obtain ⟨l⟩ := cs
  match l, h with
  | [c0, c1, c2, c3], _ => exact ⟨c0, c1, c2, c3, rfl⟩

def dFm (k p : Int) (g : Bool) (w : Int) : DataW H := .agg [.lit (.int .i64 k), .lit (.int .i64 p), .lit (.bool g), .lit (.int .i64 w)]

set_option maxRecDepth 100000 in
theorem open_fmt {r : Reach} {b0 : Nat} {v : Value} {d : DataW H} {p : List MemPlace} (hv : Value.okWide Tryz.prog W r b0 28 v) (h : DataW.Trod enc Tryz.prog W base spare held 28 v d p) :
    ∃ (k q : Int) (g : Bool) (u : Int), v = fm k q g u ∧ d = dFm k q g u ∧ p = [] ∧ (Lit.int .i64 k).wf = true ∧ (Lit.int .i64 q).wf = true ∧ (Lit.int .i64 u).wf = true := by
  obtain ⟨cs, rfl, hsz⟩ := okWide_struct Tryz.underlying28 hv
  obtain ⟨c0, c1, c2, c3, rfl⟩ := array4 (hsz.trans (show Tryz.prog.cellsOf 28 = 4 by kernel_rfl))
  obtain ⟨n, h⟩ := h
  obtain ⟨y0, y1, y2, y3, m, hx, _, h0, h1, h2, h3⟩ := trod_struct4 Tryz.underlying28 h
  have ki : Tryz.prog.cellsOf 3 = 1 := by kernel_rfl
  have kb : Tryz.prog.cellsOf 4 = 1 := by kernel_rfl
  obtain ⟨k, e0, x0, w0⟩ := DataW.trod_int Tryz.underlying3 h0
  obtain ⟨q, e1, x1, w1⟩ := DataW.trod_int Tryz.underlying3 h1
  obtain ⟨g, e2, x2⟩ := DataW.trod_bool Tryz.underlying4 h2
  obtain ⟨u, e3, x3, w3⟩ := DataW.trod_int Tryz.underlying3 h3
  simp [ki, kb, Value.cells] at e0 e1 e2 e3
  subst x0 x1 x2 x3 e0 e1 e2 e3
  cases hx
  exact ⟨k, q, g, u, rfl, rfl, rfl, w0, w1, w3⟩

set_option maxRecDepth 100000 in
theorem shut_fmt {k q : Int} {g : Bool} {u : Int} (w0 : (Lit.int .i64 k).wf = true) (w1 : (Lit.int .i64 q).wf = true) (w3 : (Lit.int .i64 u).wf = true) : DataW.Trod enc Tryz.prog W base spare held 28 (fm k q g u) (dFm k q g u) [] := by
  have ki : Tryz.prog.cellsOf 3 = 1 := by kernel_rfl
  have kb : Tryz.prog.cellsOf 4 = 1 := by kernel_rfl
  have kv : Tryz.prog.cellsOf 28 = 4 := by kernel_rfl
  have := trod_struct4_mk (P := Tryz.prog) (enc := enc) (w := W) (base := base) (spare := spare) (held := held) (n := 1) (cs := [.int .i64 k, .int .i64 q, .bool g, .int .i64 u])
    (y0 := (.lit (.int .i64 k), [])) (y1 := (.lit (.int .i64 q), [])) (y2 := (.lit (.bool g), [])) (y3 := (.lit (.int .i64 u), [])) Tryz.underlying28 (by simp [kv])
    (by simpa [ki] using trod_int_mk 0 Tryz.underlying3 w0) (by simpa [ki] using trod_int_mk 0 Tryz.underlying3 w1) (by simp [kb, DataW.trod, Tryz.underlying4]) (by simpa [ki] using trod_int_mk 0 Tryz.underlying3 w3)
  exact ⟨2, by simpa [Value.cells, fm, dFm] using this⟩
end

end Go.Proofs.YtlbmpbkfkmabaaaGreatDoor

/-
  Lists as arguments of a law: what is read of them; where nothing of old turns they read as they did.
-/
namespace Go.Proofs.YtlbmpbkfkmabaaaGreatDoor
open Go.ChangeShapes Go.WideShapes Go.ChangeAt Go.RowKit Go.Joins

section
variable {H : Type} {enc : TypeId × Value → H} {P : Program} {T : TypeId → Prop}

theorem trod_stays' {W W' : World} {sp : Nat → Bool} (K : Kids P T) (hz : ∀ t e, T t → P.underlying t = some (.slice e) → 0 < P.cellsOf e) {t : TypeId} (hT : T t) {v : Value} {d : DataW H} {ps : List MemPlace}
    (h : DataW.Trod enc P W 0 (fun _ => true) true t v d ps) (hs : ∀ p ∈ ps, W.sameAt W' p) (hp : ∀ p ∈ ps, sp p.block = true) : DataW.Trod enc P W' 0 sp true t v d ps := by
  obtain ⟨n, hn⟩ := h
  exact ⟨n, DataW.trod_stays K (fun {t e} => hz t e) (fun e => by cases e) hT hn hs hp⟩

theorem trodAll_stays {W W' : World} {sp : Nat → Bool} (K : Kids P T) (hz : ∀ t e, T t → P.underlying t = some (.slice e) → 0 < P.cellsOf e) : ∀ {ts : List TypeId} {vs : List Value} {ds : List (DataW H)} {ps : List MemPlace},
    (∀ t ∈ ts, T t) → DataW.TrodAll enc P W 0 (fun _ => true) true ts vs ds ps → (∀ p ∈ ps, W.sameAt W' p) → (∀ p ∈ ps, sp p.block = true) → DataW.TrodAll enc P W' 0 sp true ts vs ds ps
  | [], [], [], _, _, h, _, _ => h
  | _ :: _, _ :: _, _ :: _, _, hT, ⟨p, q, h1, h2, e⟩, hs, hp => ⟨p, q, trod_stays' K hz (hT _ (List.mem_cons.2 (Or.inl rfl))) h1 (fun x hx => hs x (by rw [e]; exact List.mem_append_left _ hx)) (fun x hx => hp x (by rw [e]; exact List.mem_append_left _ hx)),
      trodAll_stays K hz (fun t ht => hT t (List.mem_cons.2 (Or.inr ht))) h2 (fun x hx => hs x (by rw [e]; exact List.mem_append_right _ hx)) (fun x hx => hp x (by rw [e]; exact List.mem_append_right _ hx)), e⟩

theorem frozen_below {W W' : World} (h : Below W.heap.size W W') {b off : Nat} (hb : b < W.heap.size) : W'.frozen? ⟨b, off, none⟩ = W.frozen? ⟨b, off, none⟩ := by
  unfold World.frozen?
  rw [h.block b hb]

/-- 'post_of_same' where the call has laid blocks of its own, and the arguments read as they did. -/
theorem post_of_reads {f : Func} {s : ChangeSpec} {apart fresh handsOn again : Bool} {W W' : World} {args : Array Value} {v : Value} {ds : List (DataW H)} {before : List MemPlace}
    (K : Kids P T) (hz : ∀ t e, T t → P.underlying t = some (.slice e) → 0 < P.cellsOf e) (hT : ∀ t ∈ f.params.toList, T t) (hv : s.vars = [])
    (hW : DataW.Whole enc P f.params.toList s.vars apart W args.toList ds [] before)
    (hres : ∀ (b : Nat) (sp : Nat → Bool) (hd : Bool), DataW.TrodAll enc P W' b sp hd f.resultTypes.toList (v.resultList f.resultTypes.size) (s.fn H (ds ++ [])).results [])
    (ha : (s.fn H (ds ++ [])).args = ds) (hvs : (s.fn H (ds ++ [])).vars = [])
    (hk : Below W.heap.size W W')
    (hok : ∀ (j : Nat) (t : TypeId) (r : Value), f.resultTypes[j]? = some t → (v.resultList f.resultTypes.size)[j]? = some r → Value.okWide P W' .any 0 t r) :
    s.post enc P f apart fresh handsOn again W args v W' := by
  have hlt := hW.lt
  have hW' := hW
  obtain ⟨p, q, hA, hV, rfl, hfz, hn⟩ := hW'
  rw [hv] at hV
  obtain ⟨_, rfl⟩ := trodVars_none hV
  have hargs : ∀ sp : Nat → Bool, (∀ x ∈ p, sp x.block = true) → DataW.TrodAll enc P W' 0 sp true f.params.toList args.toList (s.fn H (ds ++ [])).args p := fun sp hsp => by
    rw [ha]
    exact trodAll_stays K hz hT hA (fun x hx => hk.same (hlt x (List.mem_append_left _ hx))) hsp
  have hvars : ∀ sp : Nat → Bool, DataW.TrodVars enc P W' sp s.vars (s.fn H (ds ++ [])).vars [] := fun sp => by rw [hv, hvs]; rfl
  refine ⟨ds, [], p ++ [], [], p, [], hW, hres _ _ _, hargs _ (fun x hx => by simpa using hlt x (List.mem_append_left _ hx)), hvars _, World.keptBut_mono (fun x hx => ⟨by simpa using hx, .inr (.inl hx)⟩) (hk.frame (· ∈ p)), fun _ => ?_⟩
  refine ⟨hok, _, _, ([] ++ p) ++ [], ⟨[] ++ p, [], trodAll_append (hargs _ (fun _ _ => rfl)) (hres _ _ _), hvars _, rfl, ?_, ?_⟩, ?_⟩
  · intro b off hp
    have hp' : MemPlace.cell b off ∈ p ++ [] := by simpa using hp
    rw [frozen_below hk (b := b) (off := off) (hlt _ hp')]
    exact hfz b off hp'
  · intro ha'
    simpa using hn ha'
  · intro x hx _
    simpa using hx

theorem slice_shape {w : World} {r : Reach} {b0 : Nat} {t e : TypeId} {a : Addr} {len cap : Nat} (ht : P.underlying t = some (.slice e)) (h : Value.okWide P w r b0 t (.slice (some a) len cap)) : a.spot = none ∧ ∃ cs ty fr, w.heap[a.block]? = some (.cells cs ty fr) := by
  unfold Value.okWide at h
  rw [ht] at h
  simp only [Cell.okWide, Cell.ok, ht] at h
  obtain ⟨_, _, _, h2, row, cells, h3, _⟩ := h
  refine ⟨h2, ?_⟩
  unfold World.shape? at h3
  split at h3
  · rename_i c el fr hc; exact ⟨c, el, fr, hc⟩
  · cases h3

/-- A list: what its elements are; their readings. -/
theorem open_fam {α : Type} [Inhabited α] (mk : α → Value) (rd : α → DataW H) (Q : α → Prop) {W : World} {r : Reach} {b0 : Nat} {t e : TypeId} {sz : Nat} (ht : P.underlying t = some (.slice e)) (hsz : P.cellsOf e = sz) {v : Value} {d : DataW H} {p : List MemPlace}
    (hv : Value.okWide P W r b0 t v) (h : DataW.Trod enc P W 0 (fun _ => true) true t v d p)
    (he : ∀ (cs : List Value) (n : Nat) (y : DataW H × List MemPlace), cs.length = sz → DataW.trod enc P W 0 (fun _ => true) true n e cs = some y → ∃ x, (mk x).cells.toList = cs ∧ Ev.pureV (mk x) = true ∧ y.1 = rd x ∧ Q x) :
    ∃ (F : Nat → α) (n off : Nat), Ev.CelIs W (.f (fun i => mk (F i)) n sz off) v ∧ n ≤ maxLen ∧ (∀ i, i < n → Q (F i)) ∧ (d = .nil ∧ n = 0 ∨ ∃ rest, d = .slice ((List.range n).map fun i => rd (F i)) rest) := by
  obtain ⟨a, len, cap, rfl⟩ := okWide_slice ht hv
  obtain ⟨fuel, hf⟩ := h
  rcases Deep.open_slice ht hf with ⟨h1, h2⟩ | ⟨a, len, cap, m, n, D, Pl, h1, _, hl, hm, hmm, hx, hel⟩
  · simp only [Value.cells, List.cons.injEq, and_true] at h1
    rw [h1]
    cases h2
    exact ⟨fun _ => default, 0, 0, .inl ⟨rfl, rfl⟩, Nat.zero_le _, fun i hi => by omega, .inl ⟨rfl, rfl⟩⟩
  · simp only [Value.cells, List.cons.injEq, and_true] at h1
    rw [h1] at hv ⊢
    obtain ⟨hsp, cs, ty, fr, hb⟩ := slice_shape ht hv
    obtain ⟨b, off, sp⟩ := a
    simp only at hsp hb
    subst hsp
    have hmc : m = cap := by rw [hmm]; rfl
    subst hmc
    have each : ∀ i, i < m → ∃ x, (mk x).cells.toList.length = sz ∧ Ev.pureV (mk x) = true ∧ D i = rd x ∧ Q x ∧ ∀ (j : Nat) (u : Value), (mk x).cells.toList[j]? = some u → cs[off + i * sz + j]? = some u := by
      intro i hi
      obtain ⟨cs', hc, hy⟩ := hel i hi
      rw [hsz] at hc
      obtain ⟨_, hlen, hcell⟩ := World.cells?_some hc
      obtain ⟨x, q1, q2, q3, q4⟩ := he cs' n _ hlen hy
      refine ⟨x, by rw [q1]; exact hlen, q2, q3, q4, fun j u hj => ?_⟩
      rw [q1] at hj
      have hjl : j < sz := by rw [← hlen]; exact (List.getElem?_eq_some_iff.1 hj).1
      have := hcell j hjl
      rw [hj, Ev.addr_add, Ev.addr_add, cell_of_row W b (off + i * sz + j) _ _ _ hb] at this
      exact this
    obtain ⟨F, hF⟩ := Deep.choose_lt each
    simp only [Prod.mk.injEq] at hx
    refine ⟨F, len, off, .inr ⟨b, m, cs, ty, fr, rfl, hb, fun i hi => ?_⟩, by omega, fun i hi => (hF i (by omega)).2.2.2.1, .inr ⟨(List.range (m - len)).map fun j => D (len + j), ?_⟩⟩
    · obtain ⟨g1, g2, _, _, g5⟩ := hF i (by omega)
      exact ⟨g1, g2, g5⟩
    · rw [hx.1]
      congr 1
      exact List.map_congr_left fun i hi => (hF i (by have := List.mem_range.1 hi; omega)).2.2.1

/-- The weight of an element is one of the list's. -/
theorem weightsAll_mem {e : TypeId} {d : DataW H} {x : Nat} (hx : x ∈ DataW.weights P e d) : ∀ {l : List (DataW H)}, d ∈ l → x ∈ DataW.weightsAll P e l
  | [], h => by cases h
  | y :: r, h => by
    rw [DataW.weightsAll, List.mem_append]
    rcases List.mem_cons.1 h with rfl | h
    · exact .inl hx
    · exact .inr (weightsAll_mem hx h)
/-- Each text of a list is as short as what can be reached. -/
theorem weights_texts {t e : TypeId} {ts : List TypeId} {n : Nat} {S : Nat → List UInt8} {rest : List (DataW H)} {r : List (DataW H)} (ht : P.underlying t = some (.slice e))
    (h : (DataW.weightsEach P (t :: ts) (.slice ((List.range n).map fun i => .lit (.string (S i))) rest :: r)).all (· ≤ reachBytes) = true) : ∀ i, i < n → (S i).length ≤ 140737488351232 := by
  intro i hi
  rw [DataW.weightsEach, DataW.weights, ht, List.all_append, Bool.and_eq_true] at h
  have h1 := h.1
  simp only [List.all_cons, List.all_append, Bool.and_eq_true] at h1
  have := List.all_eq_true.1 h1.2.1 (S i).length (weightsAll_mem (d := .lit (.string (S i))) (by rw [DataW.weights]; exact List.mem_singleton.2 rfl) (List.mem_map.2 ⟨i, List.mem_range.2 hi, rfl⟩))
  simp only [reachBytes] at this
  exact of_decide_eq_true this
end

end Go.Proofs.YtlbmpbkfkmabaaaGreatDoor

/-
  Lists of formats, of texts as arguments: their elements.
-/
namespace Go.Proofs.YtlbmpbkfkmabaaaGreatDoor
open Go.ChangeShapes Go.WideShapes Go.ChangeAt Go.RowKit Go.Joins

abbrev fmtV (x : Int × Int × Bool × Int) : Value := fm x.1 x.2.1 x.2.2.1 x.2.2.2
abbrev fmtD {H : Type} (x : Int × Int × Bool × Int) : DataW H := dFm x.1 x.2.1 x.2.2.1 x.2.2.2
abbrev strV (s : List UInt8) : Value := .string ⟨⟨s⟩⟩
abbrev strD {H : Type} (s : List UInt8) : DataW H := .lit (.string s)

section
variable {H : Type} {enc : TypeId × Value → H} {W : World}
theorem str_elem (cs : List Value) (n : Nat) (y : DataW H × List MemPlace) (_ : cs.length = 1) (h : DataW.trod enc Tryz.prog W 0 (fun _ => true) true n 9 cs = some y) : ∃ s, (strV s).cells.toList = cs ∧ Ev.pureV (strV s) = true ∧ y.1 = strD s ∧ True := by
  obtain ⟨s, rfl, rfl, _⟩ := DataW.trod_string Tryz.underlying9 h
  obtain ⟨⟨s⟩⟩ := s
  exact ⟨s, rfl, rfl, rfl, trivial⟩
set_option maxRecDepth 100000 in
theorem fmt_elem (cs : List Value) (n : Nat) (y : DataW H × List MemPlace) (hl : cs.length = 4) (h : DataW.trod enc Tryz.prog W 0 (fun _ => true) true n 28 cs = some y) : ∃ x, (fmtV x).cells.toList = cs ∧ Ev.pureV (fmtV x) = true ∧ y.1 = fmtD x ∧ True := by
  match cs, hl with
  | [c0, c1, c2, c3], _ =>
  obtain ⟨y0, y1, y2, y3, m, hx, _, h0, h1, h2, h3⟩ := trod_struct4 Tryz.underlying28 h
  have ki : Tryz.prog.cellsOf 3 = 1 := by kernel_rfl
  have kb : Tryz.prog.cellsOf 4 = 1 := by kernel_rfl
  obtain ⟨k, e0, x0, _⟩ := DataW.trod_int Tryz.underlying3 h0
  obtain ⟨q, e1, x1, _⟩ := DataW.trod_int Tryz.underlying3 h1
  obtain ⟨g, e2, x2⟩ := DataW.trod_bool Tryz.underlying4 h2
  obtain ⟨u, e3, x3, _⟩ := DataW.trod_int Tryz.underlying3 h3
  simp [ki, kb] at e0 e1 e2 e3
  subst x0 x1 x2 x3 e0 e1 e2 e3
  cases hx
  exact ⟨(k, q, g, u), rfl, rfl, rfl, trivial⟩
end

theorem laid_out : laidOutB Tryz.prog = true := by kernel_rfl
theorem maps_rowed : mapsRowed Tryz.prog = true := by kernel_rfl
theorem slices_full : ∀ t e, t < Tryz.prog.types.size → Tryz.prog.underlying t = some (.slice e) → 0 < Tryz.prog.cellsOf e := slices_full_of Tryz.prog (by kernel_rfl)
theorem kids : Kids Tryz.prog (· < Tryz.prog.types.size) := kids_rows laid_out maps_rowed

end Go.Proofs.YtlbmpbkfkmabaaaGreatDoor
