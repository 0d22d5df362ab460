/-
  Layer 10 (addr): texts there and back. No program is walked here.
-/
import Derived.Test.YthclpocignpfhaaDoorAdZb
namespace Go.Proofs.YthclpocignpfhaaDoor
open Go Go.RowKit Ev AdS

theorem col_letL : ∀ n : Nat, n < 257 → 1 ≤ n → colF (letL n) 0 = n ∧ (letL n).all (fun b => isLet b.toNat) = true := by decide +kernel

theorem rowF_snoc (l : List UInt8) (b : UInt8) (r : Int) : rowF (l ++ [b]) r = minM (10 * rowF l r + ((b.toNat : Int) - 48)) := by
  unfold rowF
  rw [List.foldl_append]
  rfl

theorem dig_nat {k : Nat} (h : k < 10) : (UInt8.ofNat (48 + k)).toNat = 48 + k := by
  rw [UInt8.toNat_ofNat']
  omega

theorem dec_facts : ∀ (m u : Nat), u ≤ m → u ≤ 100000 → rowF (Lib.decDigits u) 0 = u ∧ (∀ b ∈ Lib.decDigits u, isDig b.toNat = true) ∧ Lib.decDigits u ≠ [] ∧ (1 ≤ u → headIs0 (Lib.decDigits u) = false) := by
  intro m
  induction m with
  | zero =>
    intro u h _
    obtain rfl : u = 0 := by omega
    rw [Lib.decDigits, dif_pos (by omega)]
    exact ⟨by decide, by decide, by decide, fun h => by omega⟩
  | succ m ih =>
    intro u h h2
    rw [Lib.decDigits]
    split
    · rename_i hu
      have e := dig_nat hu
      refine ⟨?_, fun b hb => ?_, by simp, fun h1 => ?_⟩
      · unfold rowF
        rw [List.foldl_cons, List.foldl_nil, e, minM_id (by omega)]
        omega
      · rw [List.mem_singleton.1 hb, e]
        unfold isDig
        simp only [Bool.and_eq_true, decide_eq_true_eq]
        omega
      · show Nat.beq (UInt8.ofNat (48 + u)).toNat 48 = false
        rw [e]
        exact beq_false (by omega)
    · rename_i hu
      have e := dig_nat (Nat.mod_lt u (show 0 < 10 by omega))
      obtain ⟨i1, i2, i3, i4⟩ := ih (u / 10) (by omega) (by omega)
      refine ⟨?_, fun b hb => ?_, by simp, fun h1 => ?_⟩
      · rw [rowF_snoc, i1, e, minM_id (by omega)]
        omega
      · rcases List.mem_append.1 hb with hb | hb
        · exact i2 b hb
        · rw [List.mem_singleton.1 hb, e]
          unfold isDig
          simp only [Bool.and_eq_true, decide_eq_true_eq]
          omega
      · have := i4 (by omega)
        cases hd : Lib.decDigits (u / 10) with
        | nil => exact absurd hd i3
        | cons b l => rw [hd] at this; exact this

theorem textL_eq (c r : Int) (p q : Bool) : textL c r p q = (if p then [36] else []) ++ (letL c.toNat ++ ((if q then [36] else []) ++ Lib.decDigits r.toNat)) := by
  unfold textL
  cases p <;> cases q <;> simp

/-- What is written is read as it was. -/
theorem parse_text {c r : Int} (hv : validB c r = true) (p q : Bool) : parseS (textS c r p q) = ⟨c, r, p, q, 0⟩ := by
  have h := validB_iff.1 hv
  obtain ⟨c1, c2⟩ := col_letL c.toNat (by omega) (by omega)
  have cl : ∀ b ∈ letL c.toNat, isLet b.toNat = true := fun b hb => List.all_eq_true.1 c2 b hb
  obtain ⟨d1, d2, d3, d4⟩ := dec_facts r.toNat r.toNat (Nat.le_refl _) (by omega)
  have cne : letL c.toNat ≠ [] := by have := (letL_len c.toNat).1; intro e; rw [e] at this; simp at this
  unfold parseS textS
  rw [if_pos hv, textL_eq]
  have s1 : prun ((if p then [36] else []) ++ (letL c.toNat ++ ((if q then [36] else []) ++ Lib.decDigits r.toNat))) ⟨0, 0, 0, false, false⟩ = prun (letL c.toNat ++ ((if q then [36] else []) ++ Lib.decDigits r.toNat)) ⟨if p then 1 else 0, 0, 0, p, false⟩ := by
    cases p
    · rfl
    · have : pstep (36 : UInt8).toNat ⟨0, 0, 0, false, false⟩ = some ⟨1, 0, 0, true, false⟩ := by
        show pstep 36 _ = _
        unfold pstep; rw [if_pos ⟨rfl, rfl⟩]
      simp only [if_true, List.cons_append, List.nil_append, prun, this]
  rw [s1, prun_let _ _ _ cl (by cases p <;> decide) cne, c1]
  have s2 : prun ((if q then [36] else []) ++ Lib.decDigits r.toNat) ⟨2, (c.toNat : Int), 0, p, false⟩ = prun (Lib.decDigits r.toNat) ⟨if q then 3 else 2, (c.toNat : Int), 0, p, q⟩ := by
    cases q
    · rfl
    · have : pstep (36 : UInt8).toNat ⟨2, (c.toNat : Int), 0, p, false⟩ = some ⟨3, (c.toNat : Int), 0, p, true⟩ := by
        show pstep 36 _ = _
        unfold pstep; rw [if_neg (by rintro ⟨_, e⟩; cases e), if_pos ⟨rfl, rfl⟩]
      simp only [if_true, List.cons_append, List.nil_append, prun, this]
  rw [s2]
  have s3 := prun_dig (Lib.decDigits r.toNat) [] ⟨if q then 3 else 2, (c.toNat : Int), 0, p, q⟩ d2 (by cases q <;> simp) d3 (d4 (by omega))
  rw [List.append_nil] at s3
  rw [s3, d1]
  simp only [prun, finish, if_true]
  rw [show ((c.toNat : Nat) : Int) = c by omega, show ((r.toNat : Nat) : Int) = r by omega, if_pos hv]

theorem rowF_dec : ∀ (k : Nat) (d : List UInt8), d.length = k → k ≤ 5 → d ≠ [] → (∀ b ∈ d, isDig b.toNat = true) → headIs0 d = false → Lib.decDigits (rowF d 0).toNat = d ∧ 1 ≤ rowF d 0 ∧ (k = 1 → rowF d 0 ≤ 9) ∧ (k = 2 → rowF d 0 ≤ 99) ∧ (k = 3 → rowF d 0 ≤ 999) ∧ (k = 4 → rowF d 0 ≤ 9999) ∧ (k = 5 → rowF d 0 ≤ 99999) := by
  intro k
  induction k with
  | zero => intro d hl _ hne; exact absurd (List.length_eq_zero_iff.1 hl) hne
  | succ k ih =>
    intro d hl hk hne hd h0
    obtain ⟨l, x, rfl⟩ : ∃ l x, d = l ++ [x] := ⟨d.dropLast, d.getLast hne, (List.dropLast_concat_getLast hne).symm⟩
    have hx := hd x (by simp)
    unfold isDig at hx
    simp only [Bool.and_eq_true, decide_eq_true_eq] at hx
    rw [List.length_append, List.length_singleton] at hl
    rw [rowF_snoc]
    by_cases hln : l = []
    · subst hln
      have hx0 : x.toNat ≠ 48 := fun e => by simp [headIs0, e] at h0
      have e0 : rowF [] 0 = 0 := rfl
      rw [e0, minM_id (by omega)]
      refine ⟨?_, by omega, fun _ => by omega, fun _ => by omega, fun _ => by omega, fun _ => by omega, fun _ => by omega⟩
      rw [Lib.decDigits, dif_pos (by omega)]
      simp only [List.nil_append]
      congr 1
      apply UInt8.toNat_inj.1
      rw [dig_nat (by omega)]
      omega
    · have hl' : l.length = k := by omega
      have h0' : headIs0 l = false := by
        cases l with
        | nil => exact absurd rfl hln
        | cons b l => exact h0
      obtain ⟨i1, i2, i3, i4, i5, i6, i7⟩ := ih l hl' (by omega) hln (fun b hb => hd b (by simp [hb])) h0'
      have hk1 : 1 ≤ k := by
        cases l with
        | nil => exact absurd rfl hln
        | cons b l => simp at hl'; omega
      have hb : rowF l 0 ≤ 9999 := by
        have : k = 1 ∨ k = 2 ∨ k = 3 ∨ k = 4 := by omega
        rcases this with e | e | e | e
        · have := i3 e; omega
        · have := i4 e; omega
        · have := i5 e; omega
        · have := i6 e; omega
      rw [minM_id (by omega)]
      refine ⟨?_, by omega, fun _ => by omega, fun _ => by have := i3 (by omega); omega, fun _ => by have := i4 (by omega); omega, fun _ => by have := i5 (by omega); omega, fun _ => by have := i6 (by omega); omega⟩
      rw [Lib.decDigits, dif_neg (by omega)]
      have e1 : (10 * rowF l 0 + ((x.toNat : Int) - 48)).toNat / 10 = (rowF l 0).toNat := by omega
      have e2 : (10 * rowF l 0 + ((x.toNat : Int) - 48)).toNat % 10 = x.toNat - 48 := by omega
      rw [e1, e2, i1]
      congr 2
      apply UInt8.toNat_inj.1
      rw [dig_nat (by omega)]
      omega

theorem col_len {w : List UInt8} (hw : ∀ b ∈ w, isLet b.toNat = true) (hne : w ≠ []) (hl : w.length ≤ 2) : (letL (colF w 0).toNat).length = w.length := by
  have low : ∀ b : UInt8, isLet b.toNat = true → lowN b.toNat ≤ 25 := fun b hb => by
    unfold isLet at hb
    simp only [Bool.or_eq_true, Bool.and_eq_true, decide_eq_true_eq] at hb
    unfold lowN
    split <;> omega
  match w, hne, hl with
  | [a], _, _ =>
    have h1 := low a (hw a (by simp))
    have e : colF [a] 0 = (lowN a.toNat : Int) + 1 := by
      unfold colF
      rw [List.foldl_cons, List.foldl_nil, minM_id (by omega)]
      omega
    rw [e]
    unfold letL
    rw [if_pos (by omega)]
    rfl
  | [a, b], _, _ =>
    have h1 := low a (hw a (by simp))
    have h2 := low b (hw b (by simp))
    have e : colF [a, b] 0 = 26 * ((lowN a.toNat : Int) + 1) + lowN b.toNat + 1 := by
      unfold colF
      rw [List.foldl_cons, List.foldl_cons, List.foldl_nil, minM_id (x := 26 * 0 + (lowN a.toNat : Int) + 1) (by omega), minM_id (by omega)]
      omega
    rw [e]
    unfold letL
    rw [if_neg (by omega)]
    rfl

/-- A cell's text has as many bytes as the text that was read, and is all of it. -/
theorem text_back {s : List UInt8} (h : (parseS s).e = 0) : (textS (parseS s).c (parseS s).r (parseS s).p (parseS s).q).length = s.length ∧ preS s = s.length ∧ validB (parseS s).c (parseS s).r = true := by
  have hv : validB (parseS s).c (parseS s).r = true := by
    rcases parse_e s with ⟨_, h'⟩ | h' | h'
    · exact h'
    · omega
    · omega
  -- its parts
  have hp := parse_eq s
  have hok : (formS s).ok = true := by
    cases ho : (formS s).ok
    · rw [ho, if_neg (by simp)] at hp
      rw [hp] at h
      exact absurd h (by decide)
    · rfl
  rw [hok, if_pos rfl] at hp
  obtain ⟨o1, o2, o3, o4, o5⟩ := form_ok hok
  cases hl : (decide (2 < (formS s).w.length) || decide (4 < (formS s).d.length))
  · rw [hl, if_neg (by simp)] at hp
    simp only [Bool.or_eq_false_iff, decide_eq_false_iff_not] at hl
    have hfin : parseS s = ⟨colF (formS s).w 0, rowF (formS s).d 0, (formS s).p, (formS s).q, 0⟩ := by
      rw [hp]
      unfold finish
      simp only [if_true]
      cases hvv : validB (colF (formS s).w 0) (rowF (formS s).d 0)
      · exfalso
        rw [hp] at h
        unfold finish at h
        simp only [if_true, hvv, Bool.false_eq_true, if_false] at h
        exact absurd h (by decide)
      · rw [if_pos rfl]
    obtain ⟨d1, _⟩ := rowF_dec (formS s).d.length (formS s).d rfl (by omega) o2 o4 o5
    have c1 := col_len o3 o1 (by omega)
    -- lengths
    have hlen : s.length = (if (formS s).p then 1 else 0) + (formS s).w.length + (if (formS s).q then 1 else 0) + (formS s).d.length := by
      unfold formS at o1 hok ⊢
      simp only at o1 hok ⊢
      have hwe : (letW (dolR s)).isEmpty = false := by cases hw : letW (dolR s); exact absurd hw o1; rfl
      rw [hwe] at hok ⊢
      simp only [Bool.and_eq_true, Bool.not_false, Bool.true_and, Bool.false_eq_true, if_false, List.isEmpty_iff] at hok ⊢
      have hz : digR (dolR (letR (dolR s))) = [] := hok.1.1.1
      obtain ⟨e1, l1⟩ := dol_drop s
      obtain ⟨e2, l2⟩ := dol_drop (letR (dolR s))
      have n1 : (dolR s).length = s.length - (if dolB s then 1 else 0) := by conv => lhs; rw [e1]; rw [List.length_drop]
      have n2 : (letW (dolR s)).length + (letR (dolR s)).length = (dolR s).length := by
        rw [← List.length_append]
        exact congrArg List.length (List.takeWhile_append_dropWhile)
      have n3 : (dolR (letR (dolR s))).length = (letR (dolR s)).length - (if dolB (letR (dolR s)) then 1 else 0) := by conv => lhs; rw [e2]; rw [List.length_drop]
      have n4 : (digW (dolR (letR (dolR s)))).length + (digR (dolR (letR (dolR s)))).length = (dolR (letR (dolR s))).length := by
        rw [← List.length_append]
        exact congrArg List.length (List.takeWhile_append_dropWhile)
      rw [hz, List.length_nil] at n4
      omega
    have htl : (textS (parseS s).c (parseS s).r (parseS s).p (parseS s).q).length = s.length := by
      unfold textS
      rw [if_pos hv, textL_eq, hfin, hlen]
      simp only [List.length_append, d1, c1]
      cases (formS s).p <;> cases (formS s).q <;> simp <;> omega
    refine ⟨htl, ?_, hv⟩
    have h8 : s.length ≤ 8 := by
      rw [hlen]
      cases (formS s).p <;> cases (formS s).q <;> simp <;> omega
    have h1 : 1 ≤ s.length := by
      have : 1 ≤ (formS s).w.length := by cases hw : (formS s).w; exact absurd hw o1; simp
      omega
    unfold preS
    rw [if_neg (by omega)]
    obtain ⟨m, hm⟩ : ∃ m, s.length = m + 1 := ⟨s.length - 1, by omega⟩
    rw [hm]
    unfold preN
    rw [← hm, List.take_length, if_pos h]
  · rw [hl, if_pos rfl] at hp
    rw [hp] at h
    exact absurd h (by decide)

/-! Areas. -/

theorem text_no_mark {c r : Int} (hv : validB c r = true) (p q : Bool) : (58 : UInt8) ∉ textS c r p q := fun h => by
  have := parse_mark h
  rw [parse_text hv] at this
  exact absurd (show (0 : Int) = 3 from this) (by decide)

theorem cI_none {s : List UInt8} (h : (58 : UInt8) ∉ s) : cI s = -1 := by
  have h1 := idx_ge s
  rcases Int.lt_or_le (cI s) 0 with h2 | h2
  · omega
  · exact absurd (idx_mem h2) h

theorem cI_app : ∀ {s : List UInt8} (t : List UInt8), (58 : UInt8) ∉ s → cI (s ++ 58 :: t) = s.length
  | [], t, _ => by
    unfold cI
    rw [List.nil_append, Lib.indexByte]
    simp
  | b :: l, t, h => by
    have hb : b ≠ 58 := fun e => h (by simp [e])
    have ih := cI_app (s := l) t (fun e => h (by simp [e]))
    unfold cI at ih ⊢
    rw [List.cons_append, Lib.indexByte, ih]
    have e1 : (b == (58 : UInt8)) = false := by simpa using hb
    have e2 : (((l.length : Int)) == -1) = false := by rw [beq_eq_false_iff_ne]; omega
    rw [e1, e2]
    simp

theorem ar_self {c r d s : Int} (h : areaB c r d s = true) : arA c r d s = ⟨c, r, d, s, 0⟩ := by
  have ha := areaB_iff.1 h
  have ho : arOk c r d s = true := by unfold arOk; rw [ha.1, ha.2.1]; rfl
  unfold arA arE
  rw [ho]
  have m1 : minG c d = c := by unfold minG; rw [if_neg (by omega)]
  have m2 : minG r s = r := by unfold minG; rw [if_neg (by omega)]
  have m3 : maxG c d = d := by unfold maxG; split <;> omega
  have m4 : maxG r s = s := by unfold maxG; split <;> omega
  simp [mz, m1, m2, m3, m4]

theorem area_back {c r d s : Int} (h : areaB c r d s = true) : pareaA (arText c r d s) = ⟨c, r, d, s, 0⟩ ∧ (arText c r d s).length ≤ 9223372036854775807 := by
  have ha := areaB_iff.1 h
  have g1 := textS_len c r false false
  have g2 := textS_len d s false false
  have n1 := text_no_mark ha.1 false false
  have n2 := text_no_mark ha.2.1 false false
  unfold arText
  rw [if_pos h]
  cases he : (c == d && (r == s && true))
  · rw [if_neg (by simp)]
    have ec : cI (textS c r false false ++ [58] ++ textS d s false false) = (textS c r false false).length := by
      rw [List.append_assoc]
      exact cI_app _ n1
    have eh : hdS (textS c r false false ++ [58] ++ textS d s false false) = textS c r false false := by
      unfold hdS
      rw [ec, wrapS (by omega) (by omega), Int.add_zero, Int.toNat_natCast, List.append_assoc, List.take_left]
    have et : tlS (textS c r false false ++ [58] ++ textS d s false false) = textS d s false false := by
      unfold tlS
      rw [ec, wrapS (by omega) (by omega)]
      have : ((textS c r false false).length + 1 : Int).toNat = (textS c r false false ++ [58]).length := by rw [List.length_append, List.length_singleton]; omega
      rw [this, List.drop_left]
    refine ⟨?_, by rw [List.length_append, List.length_append, List.length_singleton]; omega⟩
    unfold pareaA
    rw [ec, eh, et, parse_text ha.1, parse_text ha.2.1, cI_none n2]
    rw [show decide (((textS c r false false).length : Int) < 0) = false from decide_eq_false (by omega)]
    simp only [Bool.false_eq_true, if_false]
    exact ar_self h
  · rw [if_pos rfl]
    simp only [Bool.and_true, Bool.and_eq_true, beq_iff_eq] at he
    obtain ⟨rfl, rfl⟩ := he
    refine ⟨?_, by omega⟩
    unfold pareaA
    rw [cI_none n1, parse_text ha.1]
    exact ar_self h

/-! Copied there and back. -/

theorem mov_back {n d : Int} {fixed : Bool} {most : Int} (h0 : 1 ≤ n) (h1 : n ≤ most) (h2 : most ≤ 4096) (g0 : 1 ≤ movI n d fixed) (g1 : movI n d fixed ≤ most) : movI (movI n d fixed) (IntKind.i64.wrap (0 - d)) fixed = n := by
  unfold movI at g0 g1 ⊢
  cases fixed with
  | true => rfl
  | false =>
    simp only [Bool.false_eq_true, if_false, Bool.or_eq_true, decide_eq_true_eq] at g0 g1 ⊢
    by_cases hb : d > 1048576 ∨ d < -1048576
    · rw [if_pos hb] at g0; omega
    · rw [if_neg hb] at g0 g1 ⊢
      rw [wrapS (n := 0 - d) (by omega) (by omega), if_neg (by omega), wrapS (n := n + d) (by omega) (by omega), wrapS (by omega) (by omega)]
      omega

theorem shift_back {c r : Int} {p q : Bool} {x y : Int} (h : shOk c r p q x y = true) : shOk (movI c x p) (movI r y q) p q (IntKind.i64.wrap (0 - x)) (IntKind.i64.wrap (0 - y)) = true ∧ movI (movI c x p) (IntKind.i64.wrap (0 - x)) p = c ∧ movI (movI r y q) (IntKind.i64.wrap (0 - y)) q = r := by
  unfold shOk at h
  simp only [Bool.and_eq_true] at h
  have v1 := validB_iff.1 h.1
  have v2 := validB_iff.1 h.2
  have e1 := mov_back (n := c) (d := x) (fixed := p) (most := 256) (by omega) (by omega) (by omega) (by omega) (by omega)
  have e2 := mov_back (n := r) (d := y) (fixed := q) (most := 4096) (by omega) (by omega) (by omega) (by omega) (by omega)
  refine ⟨?_, e1, e2⟩
  unfold shOk
  rw [e1, e2, h.1, h.2]
  rfl

end Go.Proofs.YthclpocignpfhaaDoor
