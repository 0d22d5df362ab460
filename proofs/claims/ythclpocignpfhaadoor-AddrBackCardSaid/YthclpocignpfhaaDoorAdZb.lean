/-
  Layer 10 (addr): the reference's ParseArea; AddrTexts.
-/
import Derived.Test.YthclpocignpfhaaDoorAdZa
namespace Go.Proofs.YthclpocignpfhaaDoor
open Go Go.RowKit Ev AdS

noncomputable def S12 (s : List UInt8) : St := startAt XZ 200 12 [.string ⟨⟨s⟩⟩] [] 6 []
noncomputable def c12 : Code := loopAt Tryd.prog 12 0
/-- the states between two rounds -/
def T12 (S : St) (s : List UInt8) (i : Int) (r : Int) : St :=
  match S with
  | ⟨tm, hp, k, _, _, _, rd, mq, b⟩ => ⟨only tm.length [(0, .string ⟨⟨s⟩⟩), (2, .pointer (some ⟨6, 0, none⟩)), (3, vi 0), (4, vi r), (5, vi i)], hp, k, [], [], 0, rd, mq, b⟩

section
variable (s : List UInt8) (n r : Int)
set_option maxRecDepth 100000 in
theorem z_hit (h0 : decide ((0 : Int) ≤ n) = true) (h1 : inR s n) (h2 : (byI s n == 58) = true) : Step XZ c12 (T12 (S12 s) s n r) .normal (T12 (S12 s) s (IntKind.i64.wrap (n - 1)) n) :=
  step_of (Base.cx_ok bZ2_ok 10).1 progOk.mixed [] 200 [true, true] [] (l := [(byI s n == 58) = true, inR s n, decide ((0 : Int) ≤ n) = true]) (by kernel_rfl) ⟨h2, h1, h0, trivial⟩ (by kernel_rfl) (by kernel_rfl)
set_option maxRecDepth 100000 in
theorem z_miss (h0 : decide ((0 : Int) ≤ n) = true) (h1 : inR s n) (h2 : (byI s n == 58) = false) : Step XZ c12 (T12 (S12 s) s n r) .normal (T12 (S12 s) s (IntKind.i64.wrap (n - 1)) r) :=
  step_of (Base.cx_ok bZ2_ok 10).1 progOk.mixed [] 200 [true, false] [] (l := [(byI s n == 58) = false, inR s n, decide ((0 : Int) ≤ n) = true]) (by kernel_rfl) ⟨h2, h1, h0, trivial⟩ (by kernel_rfl) (by kernel_rfl)
set_option maxRecDepth 100000 in
theorem z_out (h0 : decide ((0 : Int) ≤ n) = false) : Step XZ c12 (T12 (S12 s) s n r) (.exit 0) (T12 (S12 s) s n r) :=
  step_of (Base.cx_ok bZ2_ok 10).1 progOk.mixed [] 200 [false] [] (l := [decide ((0 : Int) ≤ n) = false]) (by kernel_rfl) ⟨h0, trivial⟩ (by kernel_rfl) (by kernel_rfl)
end

/-- The first mark from k on. -/
def ffI (s : List UInt8) (k : Nat) : Int := if cI (s.drop k) = -1 then -1 else (k : Int) + cI (s.drop k)

theorem idx_ge (s : List UInt8) : -1 ≤ cI s := Lib.indexByte_ge s 58

theorem ffI_step {s : List UInt8} {k : Nat} (hk : k < s.length) : ffI s k = if byI s k == 58 then (k : Int) else ffI s (k + 1) := by
  unfold ffI
  rw [drop_at s k hk, byI_at hk]
  have hge := idx_ge (s.drop (k + 1))
  unfold cI at hge ⊢
  rw [Lib.indexByte]
  by_cases h : s[k] = 58
  · have e1 : (s[k] == (58 : UInt8)) = true := by simp [h]
    have e2 : ((s[k].toNat : Int) == 58) = true := by rw [h]; rfl
    rw [e1, e2]
    simp
  · have e1 : (s[k] == (58 : UInt8)) = false := by simpa using h
    have e2 : ((s[k].toNat : Int) == 58) = false := by
      rw [beq_eq_false_iff_ne]
      intro e
      exact h (UInt8.toNat_inj.1 (by show s[k].toNat = 58; omega))
    rw [e1, e2]
    simp only [Bool.false_eq_true, if_false, beq_iff_eq]
    by_cases hm : Lib.indexByte (s.drop (k + 1)) 58 = -1
    · rw [if_pos hm]; simp [hm]
    · rw [if_neg hm, if_neg hm, if_neg (by omega)]
      omega

theorem ffI_zero (s : List UInt8) : ffI s 0 = cI s := by
  unfold ffI
  rw [List.drop_zero]
  split
  · rename_i h; exact h.symm
  · simp

theorem loop12 (s : List UInt8) (hs : s.length ≤ 9223372036854775807) (k : Nat) (hk : k ≤ s.length) : LoopTo XZ c12 (T12 (S12 s) s ((k : Int) - 1) (ffI s k)) (.exit 0) (T12 (S12 s) s (-1) (cI s)) := by
  refine loop_of (fun k : Nat => T12 (S12 s) s ((k : Int) - 1) (ffI s k)) (fun k => k) (fun k => k ≤ s.length) (by intro e; cases e) (fun k hk => ?_) k hk
  cases k with
  | zero =>
    right
    have := z_out s (-1) (cI s) (by decide)
    rw [ffI_zero]
    exact this
  | succ k =>
    left
    refine ⟨k, by omega, Nat.lt_succ_self k, ?_⟩
    have hin : inR s k := ⟨by omega, by rw [Int.toNat_natCast]; omega⟩
    have e : ((k + 1 : Nat) : Int) - 1 = (k : Int) := by omega
    have hw : IntKind.i64.wrap ((k : Int) - 1) = (k : Int) - 1 := wrapS (by omega) (by omega)
    rw [e, ffI_step (show k < s.length by omega)]
    cases hb : (byI s k == 58)
    · have := z_miss s k (ffI s (k + 1)) (decide_eq_true (by omega)) hin hb
      rw [hw] at this
      simpa using this
    · have := z_hit s k (ffI s (k + 1)) (decide_eq_true (by omega)) hin hb
      rw [hw] at this
      simpa using this

def hdR (s : List UInt8) : List UInt8 := s.take (cI s).toNat

/-- What the reference answers. -/
def rpareaV (s : List UInt8) : Value :=
  if decide (cI s < 0) then (if (parseS s).e != 0 then vErr (parseS s).e else .tuple ⟨[vArea (parseS s).c (parseS s).r (parseS s).c (parseS s).r, vi 0]⟩)
  else if ((parseS (hdR s)).e == 3 || (parseS (tlS s)).e == 3) then vErr 3
  else if (parseS (hdR s)).e != 0 then vErr (parseS (hdR s)).e
  else if (parseS (tlS s)).e != 0 then vErr (parseS (tlS s)).e
  else vArR (parseS (hdR s)).c (parseS (hdR s)).r (parseS (tlS s)).c (parseS (tlS s)).r

theorem start12 (s : List UInt8) (hs : s.length ≤ 9223372036854775807) : LoopTo XZ c12 (S12 s) (.exit 0) (T12 (S12 s) s (-1) (cI s)) := by
  have h := loop12 s hs s.length (Nat.le_refl _)
  have e1 : ffI s s.length = -1 := by unfold ffI; rw [List.drop_length]; rfl
  have e2 : (s.length : Int) - 1 = IntKind.i64.wrap ((s.length : Int) - 1) := (wrapS (by omega) (by omega)).symm
  rw [e1, e2] at h
  exact loop_into' h [] (by kernel_rfl) (by kernel_rfl) (by kernel_rfl)

set_option maxRecDepth 100000 in
theorem rparea_pure (s : List UInt8) (hs : s.length ≤ 9223372036854775807) : Pure Tryd.prog J0 12 [.string ⟨⟨s⟩⟩] (rpareaV s) := by
  have hL := start12 s hs
  unfold rpareaV
  cases h1 : decide (cI s < 0)
  · simp only [Bool.false_eq_true, if_false]
    have hn := of_decide_eq_false h1
    have hlt : cI s < (s.length : Int) := by have := idx_lt s; omega
    have b1 : 0 ≤ cI s ∧ cI s ≤ (s.length : Int) := by omega
    have b2 := (in_ok hs h1).2
    have l1 : (hdR s).length ≤ 9223372036854775807 := by unfold hdR; rw [List.length_take]; omega
    have l2 := tlS_len hs
    cases h2 : ((parseS (hdR s)).e == 3 || (parseS (tlS s)).e == 3)
    · simp only [Bool.false_eq_true, if_false]
      cases h3 : ((parseS (hdR s)).e != 0)
      · simp only [Bool.false_eq_true, if_false]
        cases h4 : ((parseS (tlS s)).e != 0)
        · simp only [Bool.false_eq_true, if_false]
          exact pure_of bZ2_ok 10 [told (.exit 0) (fun S => T12 S s (-1) (cI s))] [false, false, false, false] (l := [((parseS (tlS s)).e != 0) = false, ((parseS (hdR s)).e != 0) = false, ((parseS (hdR s)).e == 3 || (parseS (tlS s)).e == 3) = false, (tlS s).length ≤ 9223372036854775807, inT s, (hdR s).length ≤ 9223372036854775807, 0 ≤ cI s ∧ cI s ≤ (s.length : Int), decide (cI s < 0) = false, LoopTo XZ c12 (S12 s) (.exit 0) (T12 (S12 s) s (-1) (cI s))]) (by kernel_rfl) ⟨h4, h3, h2, l2, b2, l1, b1, h1, hL, trivial⟩
        · simp only [if_true]
          exact pure_of bZ2_ok 10 [told (.exit 0) (fun S => T12 S s (-1) (cI s))] [false, false, false, true] (l := [((parseS (tlS s)).e != 0) = true, ((parseS (hdR s)).e != 0) = false, ((parseS (hdR s)).e == 3 || (parseS (tlS s)).e == 3) = false, (tlS s).length ≤ 9223372036854775807, inT s, (hdR s).length ≤ 9223372036854775807, 0 ≤ cI s ∧ cI s ≤ (s.length : Int), decide (cI s < 0) = false, LoopTo XZ c12 (S12 s) (.exit 0) (T12 (S12 s) s (-1) (cI s))]) (by kernel_rfl) ⟨h4, h3, h2, l2, b2, l1, b1, h1, hL, trivial⟩
      · simp only [if_true]
        exact pure_of bZ2_ok 10 [told (.exit 0) (fun S => T12 S s (-1) (cI s))] [false, false, true] (l := [((parseS (hdR s)).e != 0) = true, ((parseS (hdR s)).e == 3 || (parseS (tlS s)).e == 3) = false, (tlS s).length ≤ 9223372036854775807, inT s, (hdR s).length ≤ 9223372036854775807, 0 ≤ cI s ∧ cI s ≤ (s.length : Int), decide (cI s < 0) = false, LoopTo XZ c12 (S12 s) (.exit 0) (T12 (S12 s) s (-1) (cI s))]) (by kernel_rfl) ⟨h3, h2, l2, b2, l1, b1, h1, hL, trivial⟩
    · simp only [if_true]
      exact pure_of bZ2_ok 10 [told (.exit 0) (fun S => T12 S s (-1) (cI s))] [false, true] (l := [((parseS (hdR s)).e == 3 || (parseS (tlS s)).e == 3) = true, (tlS s).length ≤ 9223372036854775807, inT s, (hdR s).length ≤ 9223372036854775807, 0 ≤ cI s ∧ cI s ≤ (s.length : Int), decide (cI s < 0) = false, LoopTo XZ c12 (S12 s) (.exit 0) (T12 (S12 s) s (-1) (cI s))]) (by kernel_rfl) ⟨h2, l2, b2, l1, b1, h1, hL, trivial⟩
  · simp only [if_true]
    cases h2 : ((parseS s).e != 0)
    · simp only [Bool.false_eq_true, if_false]
      exact pure_of bZ2_ok 10 [told (.exit 0) (fun S => T12 S s (-1) (cI s))] [true, false] (l := [((parseS s).e != 0) = false, s.length ≤ 9223372036854775807, decide (cI s < 0) = true, LoopTo XZ c12 (S12 s) (.exit 0) (T12 (S12 s) s (-1) (cI s))]) (by kernel_rfl) ⟨h2, hs, h1, hL, trivial⟩
    · simp only [if_true]
      exact pure_of bZ2_ok 10 [told (.exit 0) (fun S => T12 S s (-1) (cI s))] [true, true] (l := [((parseS s).e != 0) = true, s.length ≤ 9223372036854775807, decide (cI s < 0) = true, LoopTo XZ c12 (S12 s) (.exit 0) (T12 (S12 s) s (-1) (cI s))]) (by kernel_rfl) ⟨h2, hs, h1, hL, trivial⟩

/-! The two answers are the same. -/

theorem parse_e (s : List UInt8) : ((parseS s).e = 0 ∧ validB (parseS s).c (parseS s).r = true) ∨ (parseS s).e = 3 ∨ (parseS s).e = 20 := by
  unfold parseS finish
  split
  · exact .inr (.inl rfl)
  · split
    · split
      · rename_i h; exact .inl ⟨rfl, h⟩
      · exact .inr (.inr rfl)
    · exact .inr (.inl rfl)

theorem prun_mark : ∀ (s : List UInt8) (x : PS), (58 : UInt8) ∈ s → prun s x = none
  | [], _, h => by cases h
  | b :: l, x, h => by
    unfold prun
    split
    · rename_i y hy
      rcases List.mem_cons.1 h with e | h
      · exfalso
        subst e
        have : pstep (58 : UInt8).toNat x = none := by
          show pstep 58 x = none
          unfold pstep isLet isDig
          rw [if_neg (fun e => by omega), if_neg (fun e => by omega), if_neg (by simp), if_neg (by simp)]
        rw [this] at hy
        cases hy
      · exact prun_mark l y h
    · rfl

theorem parse_mark {s : List UInt8} (h : (58 : UInt8) ∈ s) : (parseS s).e = 3 := by
  unfold parseS
  rw [prun_mark s _ h]
  rfl

theorem idx_mem : ∀ {s : List UInt8}, 0 ≤ cI s → (58 : UInt8) ∈ s
  | [], h => by
    have : cI [] = -1 := rfl
    omega
  | b :: l, h => by
    unfold cI Lib.indexByte at h
    split at h
    · rename_i hb
      rw [eq_of_beq hb]; simp
    · split at h
      · omega
      · rename_i hm
        have := idx_ge l
        have hm' : ¬ cI l = -1 := fun e => hm (by unfold cI at e; rw [e]; rfl)
        exact List.mem_cons_of_mem _ (idx_mem (by omega))

theorem parea_eq (s : List UInt8) (hs : s.length ≤ 9223372036854775807) : rpareaV s = pareaV s := by
  unfold rpareaV pareaV
  cases h1 : decide (cI s < 0)
  · simp only [Bool.false_eq_true, if_false]
    have hn := of_decide_eq_false h1
    have hlt : cI s < (s.length : Int) := by have := idx_lt s; omega
    have eh : hdS s = hdR s := by
      unfold hdS hdR
      rw [wrapS (by omega) (by omega), Int.add_zero]
    rw [eh]
    have ex := parse_e (hdR s)
    have ey := parse_e (tlS s)
    cases h4 : decide (cI (tlS s) < 0)
    · have hy : (parseS (tlS s)).e = 3 := parse_mark (idx_mem (by have := of_decide_eq_false h4; omega))
      simp [hy]
    · simp only [if_true]
      rcases ex with ⟨x0, _⟩ | x0 | x0 <;> rcases ey with ⟨y0, _⟩ | y0 | y0 <;> simp [x0, y0]
  · simp only [if_true]
    rcases parse_e s with ⟨x0, xv⟩ | x0 | x0
    · simp only [x0]
      have ha : arOk (parseS s).c (parseS s).r (parseS s).c (parseS s).r = true := by unfold arOk; rw [xv]; rfl
      have m1 : ∀ a : Int, minG a a = a := fun a => by unfold minG; split <;> rfl
      have m2 : ∀ a : Int, maxG a a = a := fun a => by unfold maxG; split <;> rfl
      simp [vArR, arE, ha, mz, m1, m2]
    · simp [x0]
    · simp [x0]

/-- An area read: the area, the error. -/
structure AR where
  c : Int
  r : Int
  d : Int
  s : Int
  e : Int

def errA (e : Int) : AR := ⟨0, 0, 0, 0, e⟩
def arA (c r d s : Int) : AR := ⟨mz (arOk c r d s) (minG c d), mz (arOk c r d s) (minG r s), mz (arOk c r d s) (maxG c d), mz (arOk c r d s) (maxG r s), arE c r d s⟩
def vAR (x : AR) : Value := .tuple ⟨[vArea x.c x.r x.d x.s, vi x.e]⟩

def pareaA (s : List UInt8) : AR :=
  if decide (cI s < 0) then (if (parseS s).e == 3 then errA 3 else if (parseS s).e != 0 then errA (parseS s).e else arA (parseS s).c (parseS s).r (parseS s).c (parseS s).r)
  else if (parseS (hdS s)).e == 3 then errA 3
  else if decide (cI (tlS s) < 0) then (if (parseS (tlS s)).e == 3 then errA 3 else if (parseS (tlS s)).e != 0 then errA (parseS (tlS s)).e else if (parseS (hdS s)).e != 0 then errA (parseS (hdS s)).e
    else arA (parseS (hdS s)).c (parseS (hdS s)).r (parseS (tlS s)).c (parseS (tlS s)).r)
  else errA 3

theorem pareaA_eq (s : List UInt8) : pareaV s = vAR (pareaA s) := by
  unfold pareaV pareaA
  split
  · split
    · rfl
    · split <;> rfl
  · split
    · rfl
    · split
      · split
        · rfl
        · split
          · rfl
          · split <;> rfl
      · rfl

def specPArea : List Value → Option (Value × List Prop)
  | [.string ⟨⟨s⟩⟩] => some (.tuple ⟨[.agg ⟨[.int .i64 (pareaA s).c, .int .i64 (pareaA s).r, .int .i64 (pareaA s).d, .int .i64 (pareaA s).s]⟩, .int .i64 (pareaA s).e]⟩, [s.length ≤ 9223372036854775807])
  | _ => none
theorem specPArea_ok (args : List Value) (v : Value) (l : List Prop) (h : specPArea args = some (v, l)) (hl : allP l) : Pure Tryd.prog J0 11 args v := by
  unfold specPArea at h
  split at h
  · cases h
    have := parea_pure _ hl.1
    rw [pareaA_eq] at this
    exact this
  · cases h
theorem specRPArea_ok (args : List Value) (v : Value) (l : List Prop) (h : specPArea args = some (v, l)) (hl : allP l) : Pure Tryd.prog J0 12 args v := by
  unfold specPArea at h
  split at h
  · cases h
    have := rparea_pure _ hl.1
    rw [parea_eq _ hl.1, pareaA_eq] at this
    exact this
  · cases h

def specPrefix : List Value → Option (Value × List Prop)
  | [.string ⟨⟨s⟩⟩] => some (.int .i64 (preS s), [s.length ≤ 9223372036854775807])
  | _ => none
theorem specPrefix_ok (args : List Value) (v : Value) (l : List Prop) (h : specPrefix args = some (v, l)) (hl : allP l) : Pure Tryd.prog J0 13 args v := by
  unfold specPrefix at h
  split at h
  · cases h; exact prefix_pure _ hl.1
  · cases h
theorem specRPrefix_ok (args : List Value) (v : Value) (l : List Prop) (h : specPrefix args = some (v, l)) (hl : allP l) : Pure Tryd.prog J0 14 args v := by
  unfold specPrefix at h
  split at h
  · cases h; exact rprefix_pure _ hl.1
  · cases h

noncomputable def tabZ3 : Tab := tabAdd 11 specPArea (tabAdd 12 specPArea (tabAdd 13 specPrefix (tabAdd 14 specPrefix tabZ2)))
theorem tabZ3_ok : PcOk Tryd.prog J0 tabZ3 := tabAdd_ok specPArea_ok (tabAdd_ok specRPArea_ok (tabAdd_ok specPrefix_ok (tabAdd_ok specRPrefix_ok tabZ2_ok)))
noncomputable def bZ3 : Base := ⟨Tryd.prog, J0, false, tabZ3, mtab0, 200⟩
theorem bZ3_ok : BaseOk bZ3 := ⟨progOk, tabZ3_ok, mtab0_ok _ _⟩

end Go.Proofs.YthclpocignpfhaaDoor
