/-
  Formats as arguments, opened and shut.
-/
import Derived.Test.YtpipgieehnnmcaaGreatDoorVaI
import Derived.Test.YtpipgieehnnmcaaGreatDoorShKL
import Derived.Test.YtpipgieehnnmcaaGreatDoorShMN
namespace Go.Proofs.YtpipgieehnnmcaaGreatDoor
open Go.ChangeShapes Go.WideShapes Go.ChangeAt Go.RowKit Go.Joins

section
variable {H : Type} {enc : TypeId × Value → H} {w : World} {W : World} {base : Nat} {spare : Nat → Bool} {held : Bool}

theorem trod_struct4 {P : Program} {t : TypeId} {f0 f1 f2 f3 : Field} {fuel : Nat} {cs : List Value} {x : DataW H × List MemPlace} (ht : P.underlying t = some (.struct #[f0, f1, f2, f3])) (h : DataW.trod enc P w base spare held fuel t cs = some x) :
    ∃ y0 y1 y2 y3 n, x = (.agg [y0.1, y1.1, y2.1, y3.1], y0.2 ++ (y1.2 ++ (y2.2 ++ y3.2))) ∧ cs.length = P.cellsOf t ∧ DataW.trod enc P w base spare held n f0.type ((cs.drop f0.offset).take (P.cellsOf f0.type)) = some y0 ∧
      DataW.trod enc P w base spare held n f1.type ((cs.drop f1.offset).take (P.cellsOf f1.type)) = some y1 ∧ DataW.trod enc P w base spare held n f2.type ((cs.drop f2.offset).take (P.cellsOf f2.type)) = some y2 ∧
      DataW.trod enc P w base spare held n f3.type ((cs.drop f3.offset).take (P.cellsOf f3.type)) = some y3 := by
  obtain ⟨xs, n, _, rfl, hl, hlen, hf⟩ := DataW.trod_struct ht h
  match xs, hlen with
  | [y0, y1, y2, y3], _ => exact ⟨y0, y1, y2, y3, n, by simp, hl, by simpa using hf 0 f0 rfl, by simpa using hf 1 f1 rfl, by simpa using hf 2 f2 rfl, by simpa using hf 3 f3 rfl⟩
theorem trod_struct4_mk {P : Program} {t : TypeId} {f0 f1 f2 f3 : Field} {n : Nat} {cs : List Value} {y0 y1 y2 y3 : DataW H × List MemPlace} (ht : P.underlying t = some (.struct #[f0, f1, f2, f3])) (hl : cs.length = P.cellsOf t)
    (h0 : DataW.trod enc P w base spare held n f0.type ((cs.drop f0.offset).take (P.cellsOf f0.type)) = some y0) (h1 : DataW.trod enc P w base spare held n f1.type ((cs.drop f1.offset).take (P.cellsOf f1.type)) = some y1)
    (h2 : DataW.trod enc P w base spare held n f2.type ((cs.drop f2.offset).take (P.cellsOf f2.type)) = some y2) (h3 : DataW.trod enc P w base spare held n f3.type ((cs.drop f3.offset).take (P.cellsOf f3.type)) = some y3) :
    DataW.trod enc P w base spare held (n + 1) t cs = some (.agg [y0.1, y1.1, y2.1, y3.1], y0.2 ++ (y1.2 ++ (y2.2 ++ y3.2))) := by
  have := trod_struct_mk (enc := enc) (w := w) (base := base) (spare := spare) (held := held) (n := n) (xs := [y0, y1, y2, y3]) ht hl (by simp [h0, h1, h2, h3])
  simpa using this

theorem array4 {α : Type} {cs : Array α} (h : cs.size = 4) : ∃ c0 c1 c2 c3, cs = #[c0, c1, c2, c3] := by
  obtain ⟨l⟩ := cs
  match l, h with
  | [c0, c1, c2, c3], _ => exact ⟨c0, c1, c2, c3, rfl⟩

def dFm (k p : Int) (g : Bool) (w : Int) : DataW H := .agg [.lit (.int .i64 k), .lit (.int .i64 p), .lit (.bool g), .lit (.int .i64 w)]

set_option maxRecDepth 100000 in
theorem open_fmt {r : Reach} {b0 : Nat} {v : Value} {d : DataW H} {p : List MemPlace} (hv : Value.okWide Tryz.prog W r b0 51 v) (h : DataW.Trod enc Tryz.prog W base spare held 51 v d p) :
    ∃ (k q : Int) (g : Bool) (u : Int), v = fm k q g u ∧ d = dFm k q g u ∧ p = [] ∧ (Lit.int .i64 k).wf = true ∧ (Lit.int .i64 q).wf = true ∧ (Lit.int .i64 u).wf = true := by
  obtain ⟨cs, rfl, hsz⟩ := okWide_struct Tryz.underlying51 hv
  obtain ⟨c0, c1, c2, c3, rfl⟩ := array4 (hsz.trans (show Tryz.prog.cellsOf 51 = 4 by kernel_rfl))
  obtain ⟨n, h⟩ := h
  obtain ⟨y0, y1, y2, y3, m, hx, _, h0, h1, h2, h3⟩ := trod_struct4 Tryz.underlying51 h
  have ki : Tryz.prog.cellsOf 3 = 1 := by kernel_rfl
  have kb : Tryz.prog.cellsOf 4 = 1 := by kernel_rfl
  obtain ⟨k, e0, x0, w0⟩ := DataW.trod_int Tryz.underlying3 h0
  obtain ⟨q, e1, x1, w1⟩ := DataW.trod_int Tryz.underlying3 h1
  obtain ⟨g, e2, x2⟩ := DataW.trod_bool Tryz.underlying4 h2
  obtain ⟨u, e3, x3, w3⟩ := DataW.trod_int Tryz.underlying3 h3
  simp [ki, kb, Value.cells] at e0 e1 e2 e3
  subst x0 x1 x2 x3 e0 e1 e2 e3
  cases hx
  exact ⟨k, q, g, u, rfl, rfl, rfl, w0, w1, w3⟩

set_option maxRecDepth 100000 in
theorem shut_fmt {k q : Int} {g : Bool} {u : Int} (w0 : (Lit.int .i64 k).wf = true) (w1 : (Lit.int .i64 q).wf = true) (w3 : (Lit.int .i64 u).wf = true) : DataW.Trod enc Tryz.prog W base spare held 51 (fm k q g u) (dFm k q g u) [] := by
  have ki : Tryz.prog.cellsOf 3 = 1 := by kernel_rfl
  have kb : Tryz.prog.cellsOf 4 = 1 := by kernel_rfl
  have kv : Tryz.prog.cellsOf 51 = 4 := by kernel_rfl
  have := trod_struct4_mk (P := Tryz.prog) (enc := enc) (w := W) (base := base) (spare := spare) (held := held) (n := 1) (cs := [.int .i64 k, .int .i64 q, .bool g, .int .i64 u])
    (y0 := (.lit (.int .i64 k), [])) (y1 := (.lit (.int .i64 q), [])) (y2 := (.lit (.bool g), [])) (y3 := (.lit (.int .i64 u), [])) Tryz.underlying51 (by simp [kv])
    (by simpa [ki] using trod_int_mk 0 Tryz.underlying3 w0) (by simpa [ki] using trod_int_mk 0 Tryz.underlying3 w1) (by simp [kb, DataW.trod, Tryz.underlying4]) (by simpa [ki] using trod_int_mk 0 Tryz.underlying3 w3)
  exact ⟨2, by simpa [Value.cells, fm, dFm] using this⟩
end

theorem weights_skip {H : Type} {P : Program} {t : TypeId} {ts : List TypeId} {d : DataW H} {r : List (DataW H)} (h : (DataW.weightsEach P (t :: ts) (d :: r)).all (· ≤ reachBytes) = true) : (DataW.weightsEach P ts r).all (· ≤ reachBytes) = true := by
  rw [DataW.weightsEach, List.all_append, Bool.and_eq_true] at h
  exact h.2
theorem weights_str {H : Type} {P : Program} {t : TypeId} {ts : List TypeId} {s : List UInt8} {r : List (DataW H)} (h : (DataW.weightsEach P (t :: ts) (.lit (.string s) :: r)).all (· ≤ reachBytes) = true) : s.length ≤ 140737488351232 := by
  rw [DataW.weightsEach, DataW.weights, List.all_append, Bool.and_eq_true] at h
  have := h.1
  simp only [List.all_cons, List.all_nil, Bool.and_true, reachBytes] at this
  exact of_decide_eq_true this

theorem showReads_pure (k p : Int) (g : Bool) (w : Int) (t : List UInt8) (ht : t.length ≤ 140737488351232) : Ev.Pure Tryz.prog J0 8 [fm k p g w, .string ⟨⟨t⟩⟩] (.bool true) :=
  showReads_law known06 k p w g t (by omega)

end Go.Proofs.YtpipgieehnnmcaaGreatDoor
