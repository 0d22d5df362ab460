/-
  Several texts in one (merge.py): ShK, ShL.
-/
import Derived.Test.YtpipgieehnnmcaaGreatDoorShJ

/-
  show.Read as a contract in a table.
-/
namespace Go.Proofs.YtpipgieehnnmcaaGreatDoor
open Go Go.RowKit Ev Sh

def rk (t : List UInt8) : Int := match readF t with | some f => f.k | none => 0
def rp (t : List UInt8) : Int := match readF t with | some f => f.p | none => 0
def rg (t : List UInt8) : Bool := match readF t with | some f => f.g | none => false
def rw' (t : List UInt8) : Int := match readF t with | some f => f.w | none => 0
def re (t : List UInt8) : Int := match readF t with | some _ => 0 | none => 3

theorem readV_eq (t : List UInt8) : readV t = .tuple ⟨[.agg ⟨[.int .i64 (rk t), .int .i64 (rp t), .bool (rg t), .int .i64 (rw' t)]⟩, .int .i64 (re t)]⟩ := by
  unfold readV rk rp rg rw' re
  cases readF t <;> rfl

def specReadF : List Value → Option (Value × List Prop)
  | [.string ⟨⟨t⟩⟩] => some (.tuple ⟨[.agg ⟨[.int .i64 (rk t), .int .i64 (rp t), .bool (rg t), .int .i64 (rw' t)]⟩, .int .i64 (re t)]⟩, [t.length ≤ 281474976710656])
  | _ => none

theorem specReadF_ok (args : List Value) (v : Value) (l : List Prop) (h : specReadF args = some (v, l)) (hl : allP l) : Ev.Pure Tryz.prog J0 36 args v := by
  unfold specReadF at h
  split at h
  · rename_i t
    cases h
    have := read_pure hl.1
    rw [readV_eq] at this
    exact this
  · cases h

/-- A call without arguments that answers true. -/
def specTrue : List Value → Option (Value × List Prop)
  | [] => some (.bool true, [])
  | _ => none

theorem specTrue_ok {f : FuncId} (h0 : Ev.Pure Tryz.prog J0 f [] (.bool true)) (args : List Value) (v : Value) (l : List Prop) (h : specTrue args = some (v, l)) (_ : allP l) : Ev.Pure Tryz.prog J0 f args v := by
  unfold specTrue at h
  split at h
  · cases h; exact h0
  · cases h

noncomputable def tabSh5 : Tab := tabAdd 33 specTrue (tabAdd 36 specReadF tabSh4)
theorem tabSh5_ok (hk : Ev.Pure Tryz.prog J0 33 [] (.bool true)) : PcOk Tryz.prog J0 tabSh5 := tabAdd_ok (specTrue_ok hk) (tabAdd_ok specReadF_ok tabSh4_ok)
noncomputable def bSh5 : Base := ⟨Tryz.prog, J0, false, tabSh5, mtabSh0, 2000, xtN0⟩
theorem bSh5_ok (hk : Ev.Pure Tryz.prog J0 33 [] (.bool true)) : BaseOk bSh5 := ⟨progOk, tabSh5_ok hk, mtabSh0_ok, xtN0_ok⟩

end Go.Proofs.YtpipgieehnnmcaaGreatDoor

/-
  ShowReads: its ways (printed by semgen.py); the law, given the chapter's examples.
-/
namespace Go.Proofs.YtpipgieehnnmcaaGreatDoor
open Go Go.RowKit Ev Sh
noncomputable abbrev XSh5 := bSh5.cx 12

set_option maxRecDepth 100000 in
theorem sr_tt (k p w : Int) (g : Bool) (t : List UInt8) : pureCall XSh5 [] 200 8 [fm k p g w, .string ⟨⟨t⟩⟩] [false, true, false, true] = some (Value.bool (match match re t == 3 with | true => rk t == 0 && (rp t == 0 && (rg t == false && (rw' t == 0 && true))) | false => false with | true => true | false => false), [(re t != Int.ofNat 0) = true, t.length ≤ 281474976710656, (match re (codeS k p g w) != 0 with | true => true | false => !(rk (codeS k p g w) == k && (rp (codeS k p g w) == p && (rg (codeS k p g w) == g && (rw' (codeS k p g w) == w && true))))) = false, (codeS k p g w).length ≤ 281474976710656, (codeE k p g w == Int.ofNat 0) = true, (!(codeE k p g w == Int.ofNat 0) == valid k p g w) = false]) := by kernel_rfl
set_option maxRecDepth 100000 in
theorem sr_tf (k p w : Int) (g : Bool) (t : List UInt8) : pureCall XSh5 [] 200 8 [fm k p g w, .string ⟨⟨t⟩⟩] [false, true, false, false] = some (Value.bool (match match match codeE (rk t) (rp t) (rg t) (rw' t) == 0 with | true => (codeS (rk t) (rp t) (rg t) (rw' t)) == (t) | false => false with | true => valid (rk t) (rp t) (rg t) (rw' t) | false => false with | true => true | false => false), [(re t != Int.ofNat 0) = false, t.length ≤ 281474976710656, (match re (codeS k p g w) != 0 with | true => true | false => !(rk (codeS k p g w) == k && (rp (codeS k p g w) == p && (rg (codeS k p g w) == g && (rw' (codeS k p g w) == w && true))))) = false, (codeS k p g w).length ≤ 281474976710656, (codeE k p g w == Int.ofNat 0) = true, (!(codeE k p g w == Int.ofNat 0) == valid k p g w) = false]) := by kernel_rfl
set_option maxRecDepth 100000 in
theorem sr_ft (k p w : Int) (g : Bool) (t : List UInt8) : pureCall XSh5 [] 200 8 [fm k p g w, .string ⟨⟨t⟩⟩] [false, false, true] = some (Value.bool (match match re t == 3 with | true => rk t == 0 && (rp t == 0 && (rg t == false && (rw' t == 0 && true))) | false => false with | true => true | false => false), [(re t != Int.ofNat 0) = true, t.length ≤ 281474976710656, (codeE k p g w == Int.ofNat 0) = false, (!(codeE k p g w == Int.ofNat 0) == valid k p g w) = false]) := by kernel_rfl
set_option maxRecDepth 100000 in
theorem sr_ff (k p w : Int) (g : Bool) (t : List UInt8) : pureCall XSh5 [] 200 8 [fm k p g w, .string ⟨⟨t⟩⟩] [false, false, false] = some (Value.bool (match match match codeE (rk t) (rp t) (rg t) (rw' t) == 0 with | true => (codeS (rk t) (rp t) (rg t) (rw' t)) == (t) | false => false with | true => valid (rk t) (rp t) (rg t) (rw' t) | false => false with | true => true | false => false), [(re t != Int.ofNat 0) = false, t.length ≤ 281474976710656, (codeE k p g w == Int.ofNat 0) = false, (!(codeE k p g w == Int.ofNat 0) == valid k p g w) = false]) := by kernel_rfl

theorem bool_cast {P : Program} {J : Ev.Inv P} {f : FuncId} {args : List Value} {b b' : Bool} (h : Ev.Pure P J f args (.bool b)) (hb : b = b') : Ev.Pure P J f args (.bool b') := hb ▸ h

theorem code_len {k p w : Int} {g : Bool} : (Sh.codeS k p g w).length ≤ 281474976710656 := by
  unfold Sh.codeS
  split
  · rename_i h
    unfold valid at h
    simp only [Bool.and_eq_true, decide_eq_true_eq] at h
    obtain ⟨⟨⟨⟨⟨⟨h1, h2⟩, h3⟩, h4⟩, h5⟩, h6⟩, h7⟩ := h
    have hp0 : 0 ≤ p := by unfold Sh.least at h5; split at h5 <;> omega
    have hp1 : p ≤ 30 := by unfold most at h6; split at h6 <;> omega
    have lp := dig_len (n := p.toNat) (by omega)
    have lw := dig_len (n := w.toNat) (by omega)
    unfold code
    cases g <;> by_cases hw : w = 0 <;> simp [hw] <;> omega
  · simp

/-- What a text is read as, if it is none. -/
theorem read_none {t : List UInt8} (h : readF t = none) : re t = 3 ∧ rk t = 0 ∧ rp t = 0 ∧ rg t = false ∧ rw' t = 0 := by
  unfold re rk rp rg rw'
  rw [h]
  exact ⟨rfl, rfl, rfl, rfl, rfl⟩
theorem read_some {t : List UInt8} {f : Fm} (h : readF t = some f) : re t = 0 ∧ rk t = f.k ∧ rp t = f.p ∧ rg t = f.g ∧ rw' t = f.w := by
  unfold re rk rp rg rw'
  rw [h]
  exact ⟨rfl, rfl, rfl, rfl, rfl⟩

theorem showReads_law (hk : Ev.Pure Tryz.prog J0 33 [] (.bool true)) (k p w : Int) (g : Bool) (t : List UInt8) (ht : t.length ≤ 281474976710656) :
    Ev.Pure Tryz.prog J0 8 [fm k p g w, .string ⟨⟨t⟩⟩] (.bool true) := by
  have hb := bSh5_ok hk
  have e3 : ∀ f : Fm, valid f.k f.p f.g f.w = true → Sh.codeE f.k f.p f.g f.w = 0 := fun f h => by unfold Sh.codeE; rw [h]; rfl
  cases hv : valid k p g w with
  | true =>
    have c1 : Sh.codeE k p g w = 0 := by unfold Sh.codeE; rw [hv]; rfl
    have c2 : Sh.codeS k p g w = code k p g w := by unfold Sh.codeS; rw [hv]; rfl
    have hr := read_code hv
    obtain ⟨q1, q2, q3, q4, q5⟩ := read_some hr
    have o1 : (Sh.codeE k p g w == Int.ofNat 0) = true := by rw [c1]; rfl
    have o2 : (!(Sh.codeE k p g w == Int.ofNat 0) == Sh.valid k p g w) = false := by rw [o1, hv]; rfl
    have o3 : (match re (Sh.codeS k p g w) != 0 with | true => true | false => !(rk (Sh.codeS k p g w) == k && (rp (Sh.codeS k p g w) == p && (rg (Sh.codeS k p g w) == g && (rw' (Sh.codeS k p g w) == w && true))))) = false := by
      rw [c2, q1, q2, q3, q4, q5]
      simp
    cases ht' : readF t with
    | none =>
      obtain ⟨r1, r2, r3, r4, r5⟩ := read_none ht'
      refine bool_cast (pure_call hb (sr_tt k p w g t) ⟨by rw [r1]; rfl, ht, o3, code_len, o1, o2, trivial⟩) ?_
      rw [r1, r2, r3, r4, r5]
      rfl
    | some f =>
      obtain ⟨r1, r2, r3, r4, r5⟩ := read_some ht'
      obtain ⟨v1, v2⟩ := readF_some ht'
      refine bool_cast (pure_call hb (sr_tf k p w g t) ⟨by rw [r1]; rfl, ht, o3, code_len, o1, o2, trivial⟩) ?_
      have s1 : Sh.codeS f.k f.p f.g f.w = t := by unfold Sh.codeS; rw [v1]; exact v2
      rw [r2, r3, r4, r5, e3 f v1, s1, v1]
      simp
  | false =>
    have c1 : Sh.codeE k p g w = 1 := by unfold Sh.codeE; rw [hv]; rfl
    have o1 : (Sh.codeE k p g w == Int.ofNat 0) = false := by rw [c1]; rfl
    have o2 : (!(Sh.codeE k p g w == Int.ofNat 0) == Sh.valid k p g w) = false := by rw [o1, hv]; rfl
    cases ht' : readF t with
    | none =>
      obtain ⟨r1, r2, r3, r4, r5⟩ := read_none ht'
      refine bool_cast (pure_call hb (sr_ft k p w g t) ⟨by rw [r1]; rfl, ht, o1, o2, trivial⟩) ?_
      rw [r1, r2, r3, r4, r5]
      rfl
    | some f =>
      obtain ⟨r1, r2, r3, r4, r5⟩ := read_some ht'
      obtain ⟨v1, v2⟩ := readF_some ht'
      refine bool_cast (pure_call hb (sr_ff k p w g t) ⟨by rw [r1]; rfl, ht, o1, o2, trivial⟩) ?_
      have s1 : Sh.codeS f.k f.p f.g f.w = t := by unfold Sh.codeS; rw [v1]; exact v2
      rw [r2, r3, r4, r5, e3 f v1, s1, v1]
      simp

end Go.Proofs.YtpipgieehnnmcaaGreatDoor
