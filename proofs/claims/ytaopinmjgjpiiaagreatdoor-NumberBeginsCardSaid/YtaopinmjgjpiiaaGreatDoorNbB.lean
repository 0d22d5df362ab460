/-
  number.mantissa of any text from any place on, as a contract.
-/
import Derived.Test.YtaopinmjgjpiiaaGreatDoorNbA
import Derived.Test.YtaopinmjgjpiiaaGreatDoorEvM
namespace Go.Proofs.YtaopinmjgjpiiaaGreatDoor
open Go Go.RowKit Ev

noncomputable def cMa : Code := loopAt Tryz.prog 84 0
noncomputable def tMt (t : List UInt8) (a b n p e i : Int) : St := ⟨only 67 [(0, .string ⟨⟨t⟩⟩), (1, .int .i64 a), (2, .int .i64 b), (8, .int .i64 e), (9, .int .i64 p), (16, .int .i64 n), (17, .int .i64 i)], J0.tabs, 11, [], [], 0, none, [], 11⟩
noncomputable def tMe (t : List UInt8) (a b p e : Int) : St := ⟨only 67 [(0, .string ⟨⟨t⟩⟩), (1, .int .i64 a), (2, .int .i64 b), (8, .int .i64 e), (9, .int .i64 p)], J0.tabs, 11, [], [], 0, none, [], 11⟩
/-- The byte at a place. -/
abbrev chI (t : List UInt8) (k : Int) : Int := Int.ofNat (t.getD k.toNat 0).toNat
def dotB (t : List UInt8) (k p : Int) : Bool := match chI t k == 46 with | true => decide (p < 0) | false => false
def chP (t : List UInt8) (k : Int) : Prop := Int.ofNat 0 ≤ chI t k ∧ chI t k < Int.ofNat 256
def inP (t : List UInt8) (k : Int) : Prop := Int.ofNat 0 ≤ k ∧ k.toNat < t.length

section
variable (t : List UInt8) (a b n p e i : Int)
set_option maxRecDepth 100000 in
theorem ma_dig (hl : allP [decide (worthV (chI t (IntKind.i64.wrap (a + i))) < b) = true, chP t (IntKind.i64.wrap (a + i)), inP t (IntKind.i64.wrap (a + i)), decide (i < n) = true]) :
    Step XNb0 cMa (tMt t a b n p e i) .normal (tMt t a b n p (IntKind.i64.wrap (IntKind.i64.wrap (a + i) + 1)) (IntKind.i64.wrap (i + 1))) :=
  step_of (Base.cx_ok bNb0_ok 12).1 progOk.mixed [] 200 [true, true] [] (by kernel_rfl) hl (by kernel_rfl) (by kernel_rfl)
set_option maxRecDepth 100000 in
theorem ma_dot (hl : allP [dotB t (IntKind.i64.wrap (a + i)) p = true, decide (worthV (chI t (IntKind.i64.wrap (a + i))) < b) = false, chP t (IntKind.i64.wrap (a + i)), inP t (IntKind.i64.wrap (a + i)), decide (i < n) = true]) :
    Step XNb0 cMa (tMt t a b n p e i) .normal (tMt t a b n (IntKind.i64.wrap (a + i)) (IntKind.i64.wrap (IntKind.i64.wrap (a + i) + 1)) (IntKind.i64.wrap (i + 1))) :=
  step_of (Base.cx_ok bNb0_ok 12).1 progOk.mixed [] 200 [true, false, true] [] (by kernel_rfl) hl (by kernel_rfl) (by kernel_rfl)
set_option maxRecDepth 100000 in
theorem ma_out (hl : allP [dotB t (IntKind.i64.wrap (a + i)) p = false, decide (worthV (chI t (IntKind.i64.wrap (a + i))) < b) = false, chP t (IntKind.i64.wrap (a + i)), inP t (IntKind.i64.wrap (a + i)), decide (i < n) = true]) :
    Step XNb0 cMa (tMt t a b n p e i) (.exit 0) (tMe t a b p e) :=
  step_of (Base.cx_ok bNb0_ok 12).1 progOk.mixed [] 200 [true, false, false] [] (by kernel_rfl) hl (by kernel_rfl) (by kernel_rfl)
set_option maxRecDepth 100000 in
theorem ma_end (hl : allP [decide (i < n) = false]) : Step XNb0 cMa (tMt t a b n p e i) (.exit 0) (tMe t a b p e) :=
  step_of (Base.cx_ok bNb0_ok 12).1 progOk.mixed [] 200 [false] [] (by kernel_rfl) hl (by kernel_rfl) (by kernel_rfl)
set_option maxRecDepth 100000 in
theorem mr_no : pureCall XNb0 [told (.exit 0) (fun _ => tMe t a b p e)] 200 84 [.string ⟨⟨t⟩⟩, .int .i64 a, .int .i64 b] [true] = some (.tuple ⟨[.string ⟨⟨List.drop a.toNat (List.take e.toNat t)⟩⟩, .int .i64 0, .int .i64 e]⟩,
  [(Int.ofNat 0 ≤ e ∧ e ≤ Int.ofNat t.length) ∧ Int.ofNat 0 ≤ a ∧ a ≤ e, decide (p < Int.ofNat 0) = true, LoopTo XNb0 cMa (startAt XNb0 200 84 [.string ⟨⟨t⟩⟩, .int .i64 a, .int .i64 b] J0.tabs Tryz.prog.globals.size [true]) (.exit 0) (tMe t a b p e)]) := by kernel_rfl
set_option maxRecDepth 100000 in
theorem mr_pt : pureCall XNb0 [told (.exit 0) (fun _ => tMe t a b p e)] 200 84 [.string ⟨⟨t⟩⟩, .int .i64 a, .int .i64 b] [false] = some (.tuple ⟨[.string ⟨⟨List.drop a.toNat (List.take p.toNat t) ++ List.drop (IntKind.i64.wrap (p + Int.ofNat 1)).toNat (List.take e.toNat t)⟩⟩, .int .i64 (IntKind.i64.wrap (IntKind.i64.wrap (e - p) - Int.ofNat 1)), .int .i64 e]⟩,
  [(List.drop a.toNat (List.take p.toNat t)).length + (List.drop (IntKind.i64.wrap (p + Int.ofNat 1)).toNat (List.take e.toNat t)).length ≤ 9223372036854775807, (Int.ofNat 0 ≤ e ∧ e ≤ Int.ofNat t.length) ∧ Int.ofNat 0 ≤ IntKind.i64.wrap (p + Int.ofNat 1) ∧ IntKind.i64.wrap (p + Int.ofNat 1) ≤ e, (Int.ofNat 0 ≤ p ∧ p ≤ Int.ofNat t.length) ∧ Int.ofNat 0 ≤ a ∧ a ≤ p, decide (p < Int.ofNat 0) = false,
   LoopTo XNb0 cMa (startAt XNb0 200 84 [.string ⟨⟨t⟩⟩, .int .i64 a, .int .i64 b] J0.tabs Tryz.prog.globals.size [false]) (.exit 0) (tMe t a b p e)]) := by kernel_rfl
theorem ma_into (d : Bool) {x : AX} {s' : St} (h : LoopTo XNb0 cMa (tMt t a b (IntKind.i64.wrap (Int.ofNat t.length - a)) (-1) a 0) x s') : LoopTo XNb0 cMa (startAt XNb0 200 84 [.string ⟨⟨t⟩⟩, .int .i64 a, .int .i64 b] J0.tabs Tryz.prog.globals.size [d]) x s' :=
  loop_into' h [] (by kernel_rfl) (by kernel_rfl) (by kernel_rfl)
end

/-- From a place on: where the point stands (-1: nowhere yet), where the digits end. -/
def maGo (t : List UInt8) (b : Int) : Nat → Nat → Int → Int × Nat
  | 0, k, p => (p, k)
  | f + 1, k, p => if worthV (chI t k) < b then maGo t b f (k + 1) p else if dotB t k p = true then maGo t b f (k + 1) k else (p, k)

theorem maGo_spec (t : List UInt8) (b : Int) : ∀ (f k : Nat) (p : Int), k + f = t.length → p < (k : Int) → k ≤ (maGo t b f k p).2 ∧ (maGo t b f k p).2 ≤ t.length ∧ ((maGo t b f k p).1 = p ∨ (k : Int) ≤ (maGo t b f k p).1) ∧ (maGo t b f k p).1 < ((maGo t b f k p).2 : Int)
  | 0, k, p, h, hp => ⟨Nat.le_refl _, by show k ≤ _; omega, .inl rfl, hp⟩
  | f + 1, k, p, h, hp => by
    unfold maGo
    split
    · obtain ⟨h1, h2, h3, h4⟩ := maGo_spec t b f (k + 1) p (by omega) (by omega)
      exact ⟨by omega, h2, h3.imp id (fun h => by omega), h4⟩
    · split
      · obtain ⟨h1, h2, h3, h4⟩ := maGo_spec t b f (k + 1) (k : Int) (by omega) (by omega)
        exact ⟨by omega, h2, .inr (by rcases h3 with h3 | h3 <;> omega), h4⟩
      · exact ⟨Nat.le_refl _, by show k ≤ _; omega, .inl rfl, hp⟩

theorem wr {n : Int} (h0 : -9223372036854775808 ≤ n) (h1 : n ≤ 9223372036854775807) : IntKind.i64.wrap n = n := i64_id h0 h1

theorem ma_loop {t : List UInt8} {a : Nat} {b : Int} (hl : t.length < 9223372036854775807) : ∀ (f k : Nat) (p : Int), a ≤ k → k + f = t.length →
    LoopTo XNb0 cMa (tMt t a b ((t.length : Int) - a) p k ((k : Int) - a)) (.exit 0) (tMe t a b (maGo t b f k p).1 ((maGo t b f k p).2 : Int)) := by
  intro f k p hak hkf
  obtain ⟨r, hr⟩ : ∃ r, maGo t b f k p = r := ⟨_, rfl⟩
  rw [hr]
  refine loop_of (ι := Nat × Int) (fun x => tMt t a b ((t.length : Int) - a) x.2 x.1 ((x.1 : Int) - a)) (fun x => t.length - x.1) (fun x => a ≤ x.1 ∧ x.1 ≤ t.length ∧ maGo t b (t.length - x.1) x.1 x.2 = r) (by intro e; cases e) (fun x hx => ?_) (k, p) ⟨hak, by show k ≤ _; omega, by show maGo t b (t.length - k) k p = r; rw [show t.length - k = f by omega]; exact hr⟩
  obtain ⟨k', p'⟩ := x
  obtain ⟨h1, h2, h3⟩ := hx
  simp only at h1 h2 h3 ⊢
  have ha : IntKind.i64.wrap ((a : Int) + ((k' : Int) - a)) = (k' : Int) := by rw [wr (by omega) (by omega)]; omega
  by_cases hlt : k' < t.length
  · have hc : chP t (k' : Int) := ⟨Int.natCast_nonneg _, Int.ofNat_lt.2 (UInt8.toNat_lt _)⟩
    have hi : inP t (k' : Int) := ⟨Int.natCast_nonneg _, by rw [Int.toNat_natCast]; exact hlt⟩
    have hd : decide (((k' : Int) - a) < ((t.length : Int) - a)) = true := decide_eq_true (by omega)
    have e1 : IntKind.i64.wrap ((k' : Int) + 1) = ((k' + 1 : Nat) : Int) := by rw [wr (by omega) (by omega)]; omega
    have e2 : IntKind.i64.wrap ((k' : Int) - a + 1) = ((k' + 1 : Nat) : Int) - a := by rw [wr (by omega) (by omega)]; omega
    obtain ⟨g, hg⟩ : ∃ g, t.length - k' = g + 1 := ⟨t.length - k' - 1, by omega⟩
    have hg' : t.length - (k' + 1) = g := by omega
    rw [hg] at h3
    unfold maGo at h3
    by_cases hw : worthV (chI t (k' : Int)) < b
    · rw [if_pos hw] at h3
      refine .inl ⟨(k' + 1, p'), ⟨by omega, by omega, by rw [hg']; exact h3⟩, by show t.length - (k' + 1) < t.length - k'; omega, ?_⟩
      have := ma_dig t a b ((t.length : Int) - a) p' k' ((k' : Int) - a) (by rw [ha]; exact ⟨decide_eq_true hw, hc, hi, hd, trivial⟩)
      rw [ha, e1, e2] at this
      exact this
    · rw [if_neg hw] at h3
      by_cases hdot : dotB t (k' : Int) p' = true
      · rw [if_pos hdot] at h3
        refine .inl ⟨(k' + 1, (k' : Int)), ⟨by omega, by omega, by rw [hg']; exact h3⟩, by show t.length - (k' + 1) < t.length - k'; omega, ?_⟩
        have := ma_dot t a b ((t.length : Int) - a) p' k' ((k' : Int) - a) (by rw [ha]; exact ⟨hdot, decide_eq_false hw, hc, hi, hd, trivial⟩)
        rw [ha, e1, e2] at this
        exact this
      · rw [if_neg hdot] at h3
        refine .inr ?_
        rw [← h3]
        exact ma_out t a b ((t.length : Int) - a) p' k' ((k' : Int) - a) (by rw [ha]; exact ⟨by simpa using hdot, decide_eq_false hw, hc, hi, hd, trivial⟩)
  · obtain rfl : k' = t.length := by omega
    rw [Nat.sub_self] at h3
    refine .inr ?_
    rw [← h3]
    exact ma_end t a b ((t.length : Int) - a) p' _ _ ⟨decide_eq_false (by omega), trivial⟩

/-- The point's place and the end. -/
def maP (t : List UInt8) (a : Nat) (b : Int) : Int := (maGo t b (t.length - a) a (-1)).1
def maE (t : List UInt8) (a : Nat) (b : Int) : Nat := (maGo t b (t.length - a) a (-1)).2
def maS (t : List UInt8) (a : Nat) (b : Int) : List UInt8 := if maP t a b < 0 then (t.take (maE t a b)).drop a else (t.take (maP t a b).toNat).drop a ++ (t.take (maE t a b)).drop ((maP t a b).toNat + 1)
def maB (t : List UInt8) (a : Nat) (b : Int) : Int := if maP t a b < 0 then 0 else (maE t a b : Int) - maP t a b - 1
theorem ma_range {t : List UInt8} {a : Nat} {b : Int} (ha : a ≤ t.length) : a ≤ maE t a b ∧ maE t a b ≤ t.length ∧ (maP t a b = -1 ∨ (a : Int) ≤ maP t a b) ∧ maP t a b < (maE t a b : Int) := by
  unfold maE maP
  exact maGo_spec t b (t.length - a) a (-1) (by omega) (by omega)

theorem mantissa_pure {t : List UInt8} {a : Nat} {b : Int} (hl : t.length < 9223372036854775807) (ha : a ≤ t.length) :
    Ev.Pure Tryz.prog J0 84 [.string ⟨⟨t⟩⟩, .int .i64 a, .int .i64 b] (.tuple ⟨[.string ⟨⟨maS t a b⟩⟩, .int .i64 (maB t a b), .int .i64 (maE t a b)]⟩) := by
  obtain ⟨r1, r2, r3, r4⟩ := ma_range (b := b) ha
  have hloop := ma_loop (a := a) (b := b) hl (t.length - a) a (-1) (Nat.le_refl _) (by omega)
  rw [Int.sub_self] at hloop
  have hn : IntKind.i64.wrap (Int.ofNat t.length - (a : Int)) = (t.length : Int) - a := by
    show IntKind.i64.wrap ((t.length : Int) - a) = _
    rw [wr (by omega) (by omega)]
  have hin : ∀ d, LoopTo XNb0 cMa (startAt XNb0 200 84 [.string ⟨⟨t⟩⟩, .int .i64 a, .int .i64 b] J0.tabs Tryz.prog.globals.size [d]) (.exit 0) (tMe t a b (maP t a b) (maE t a b : Int)) := fun d => ma_into t a b d (by rw [hn]; exact hloop)
  have hte : (Int.ofNat 0 ≤ (maE t a b : Int) ∧ (maE t a b : Int) ≤ Int.ofNat t.length) := ⟨Int.natCast_nonneg _, Int.ofNat_le.2 r2⟩
  unfold maS maB
  by_cases hp : maP t a b < 0
  · rw [if_pos hp, if_pos hp]
    have : Ev.Pure Tryz.prog J0 _ _ _ := pureN bNb0_ok (mr_no t a b (maP t a b) (maE t a b : Int)) ⟨⟨hte, Int.natCast_nonneg _, Int.ofNat_le.2 r1⟩, decide_eq_true hp, hin true, trivial⟩
    simpa using this
  · rw [if_neg hp, if_neg hp]
    have hpa : (a : Int) ≤ maP t a b := by rcases r3 with h | h <;> omega
    obtain ⟨q, hq⟩ := Int.eq_ofNat_of_zero_le (show 0 ≤ maP t a b by omega)
    have e1 : IntKind.i64.wrap ((q : Int) + Int.ofNat 1) = ((q + 1 : Nat) : Int) := by
      show IntKind.i64.wrap ((q : Int) + 1) = _
      rw [wr (by omega) (by omega)]
      omega
    have e2 : IntKind.i64.wrap (IntKind.i64.wrap ((maE t a b : Int) - (q : Int)) - Int.ofNat 1) = (maE t a b : Int) - q - 1 := by
      show IntKind.i64.wrap (IntKind.i64.wrap ((maE t a b : Int) - (q : Int)) - 1) = _
      rw [wr (n := (maE t a b : Int) - (q : Int)) (by omega) (by omega), wr (by omega) (by omega)]
    have : Ev.Pure Tryz.prog J0 _ _ _ := pureN bNb0_ok (mr_pt t a b (maP t a b) (maE t a b : Int)) (by
      rw [hq, e1]
      refine ⟨?_, ⟨hte, Int.natCast_nonneg _, by omega⟩, ⟨⟨Int.natCast_nonneg _, by show (q : Int) ≤ (t.length : Int); omega⟩, Int.natCast_nonneg _, by omega⟩, decide_eq_false (by show ¬((q : Int) < 0); omega), by rw [← hq]; exact hin false, trivial⟩
      simp only [List.length_drop, List.length_take, Int.toNat_natCast]
      omega)
    rw [hq, e1, e2] at this
    rw [hq]
    simpa using this

end Go.Proofs.YtaopinmjgjpiiaaGreatDoor
