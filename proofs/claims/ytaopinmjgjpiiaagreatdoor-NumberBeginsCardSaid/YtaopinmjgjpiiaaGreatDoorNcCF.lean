/-
  Several texts in one (merge.py): NcC, NcD, NcE, NcF.
-/
import Derived.Test.YtaopinmjgjpiiaaGreatDoorNcAB
import Derived.Test.YtaopinmjgjpiiaaGreatDoorNbG

/-
  The document's worth, first, may, as contracts.
-/
namespace Go.Proofs.YtaopinmjgjpiiaaGreatDoor
open Go Go.RowKit Ev

def w2V (c : Int) : Int := if 48 ≤ c ∧ c ≤ 57 then c - 48 else if 97 ≤ c ∧ c ≤ 102 then c - 87 else if 65 ≤ c ∧ c ≤ 70 then c - 55 else 99
section
variable (c : Int)
theorem w2_1 : pureCall XNb3 [] 200 86 [.int .u8 c] [true] = some (.int .i64 (IntKind.i64.wrap (IntKind.u8.wrap (c - Int.ofNat 48))), [inC 48 57 c = true]) := by kernel_rfl
theorem w2_2 : pureCall XNb3 [] 200 86 [.int .u8 c] [false, true] = some (.int .i64 (IntKind.i64.wrap (IntKind.i64.wrap (IntKind.u8.wrap (c - Int.ofNat 97)) + Int.ofNat 10)), [inC 97 102 c = true, inC 48 57 c = false]) := by kernel_rfl
theorem w2_3 : pureCall XNb3 [] 200 86 [.int .u8 c] [false, false, true] = some (.int .i64 (IntKind.i64.wrap (IntKind.i64.wrap (IntKind.u8.wrap (c - Int.ofNat 65)) + Int.ofNat 10)), [inC 65 70 c = true, inC 97 102 c = false, inC 48 57 c = false]) := by kernel_rfl
theorem w2_4 : pureCall XNb3 [] 200 86 [.int .u8 c] [false, false, false] = some (.int .i64 99, [inC 65 70 c = false, inC 97 102 c = false, inC 48 57 c = false]) := by kernel_rfl
end
theorem worth2_pure {c : Int} (h0 : 0 ≤ c) (h1 : c < 256) : Ev.Pure Tryz.prog J0 86 [.int .u8 c] (.int .i64 (w2V c)) := by
  unfold w2V
  by_cases a : 48 ≤ c ∧ c ≤ 57
  · rw [if_pos a]
    exact int_cast (pureN bNb3_ok (w2_1 c) ⟨inB_iff.2 a, trivial⟩) (by rw [show Int.ofNat 48 = 48 from rfl, u8_id (by omega) (by omega), i64_id (by omega) (by omega)])
  rw [if_neg a]
  by_cases b : 97 ≤ c ∧ c ≤ 102
  · rw [if_pos b]
    exact int_cast (pureN bNb3_ok (w2_2 c) ⟨inB_iff.2 b, inB_not.2 a, trivial⟩) (by rw [show Int.ofNat 97 = 97 from rfl, show Int.ofNat 10 = 10 from rfl, u8_id (by omega) (by omega), i64_id (n := c - 97) (by omega) (by omega), i64_id (by omega) (by omega)]; omega)
  rw [if_neg b]
  by_cases d : 65 ≤ c ∧ c ≤ 70
  · rw [if_pos d]
    exact int_cast (pureN bNb3_ok (w2_3 c) ⟨inB_iff.2 d, inB_not.2 b, inB_not.2 a, trivial⟩) (by rw [show Int.ofNat 65 = 65 from rfl, show Int.ofNat 10 = 10 from rfl, u8_id (by omega) (by omega), i64_id (n := c - 65) (by omega) (by omega), i64_id (by omega) (by omega)]; omega)
  rw [if_neg d]
  exact pureN bNb3_ok (w2_4 c) ⟨inB_not.2 d, inB_not.2 b, inB_not.2 a, trivial⟩
theorem w2_lt {c b : Int} (hb : b ≤ 16) : w2V c < b ↔ worthV c < b := by
  unfold w2V worthV
  split
  · rfl
  split
  · rfl
  split
  · rfl
  · omega
theorem w2_99 {c : Int} : w2V c < 99 ↔ worthV c < 16 := by
  unfold w2V worthV
  split
  · omega
  split
  · omega
  split <;> omega
def specW2 : List Value → Option (Value × List Prop)
  | [.int .u8 c] => some (.int .i64 (w2V c), [0 ≤ c ∧ c < 256])
  | _ => none
theorem specW2_ok (args : List Value) (v : Value) (l : List Prop) (h : specW2 args = some (v, l)) (hl : allP l) : Ev.Pure Tryz.prog J0 86 args v := by
  unfold specW2 at h
  split at h
  · cases h; exact worth2_pure hl.1.1 hl.1.2
  · cases h
noncomputable def tabNc0 : Tab := tabAdd 86 specW2 tabNb3
theorem tabNc0_ok : PcOk Tryz.prog J0 tabNc0 := tabAdd_ok specW2_ok tabNb3_ok
noncomputable def bNc0 : Base := ⟨Tryz.prog, J0, false, tabNc0, mtab0, 2000, xtN0⟩
theorem bNc0_ok : BaseOk bNc0 := ⟨progOk, tabNc0_ok, mtab0_ok _ _, xtN0_ok⟩
noncomputable abbrev XNc0 := bNc0.cx 12

/-! first -/

noncomputable def cFi : Code := loopAt Tryz.prog 87 0
noncomputable def tFi (t : List UInt8) (a b i : Int) : St := ⟨only 29 [(0, .string ⟨⟨t⟩⟩), (1, .int .u8 a), (2, .int .u8 b), (6, .int .i64 0), (7, .int .i64 i)], J0.tabs, 11, [], [], 0, none, [], 11⟩
noncomputable def tFr (i : Int) : St := ⟨only 29 [(6, .int .i64 i)], J0.tabs, 11, [], [], 0, none, [], 11⟩
def fsB (t : List UInt8) (a b k : Int) : Bool := match chI t k == a with | true => true | false => chI t k == b
def fsP (t : List UInt8) (a k : Int) : Prop := condP [(5, chI t k == a)] [(5, false)] → 0 ≤ k ∧ k.toNat < t.length
section
variable (t : List UInt8) (a b i : Int)
set_option maxRecDepth 100000 in
theorem fi_ret (hl : allP [fsB t a b i = true, fsP t a i, inP t i, ltE t i = true]) : Step XNc0 cFi (tFi t a b i) .ret (tFr i) :=
  step_of (Base.cx_ok bNc0_ok 12).1 progOk.mixed [] 200 [true, true] [] (by kernel_rfl) hl (by kernel_rfl) (by kernel_rfl)
set_option maxRecDepth 100000 in
theorem fi_go (hl : allP [fsB t a b i = false, fsP t a i, inP t i, ltE t i = true]) : Step XNc0 cFi (tFi t a b i) .normal (tFi t a b (IntKind.i64.wrap (i + 1))) :=
  step_of (Base.cx_ok bNc0_ok 12).1 progOk.mixed [] 200 [true, false] [] (by kernel_rfl) hl (by kernel_rfl) (by kernel_rfl)
set_option maxRecDepth 100000 in
theorem fi_end (hl : allP [ltE t i = false]) : Step XNc0 cFi (tFi t a b i) (.exit 0) (tFi t a b i) :=
  step_of (Base.cx_ok bNc0_ok 12).1 progOk.mixed [] 200 [false] [] (by kernel_rfl) hl (by kernel_rfl) (by kernel_rfl)
set_option maxRecDepth 100000 in
theorem fi_wr : pureCall XNc0 [told .ret (fun _ => tFr i)] 200 87 [.string ⟨⟨t⟩⟩, .int .u8 a, .int .u8 b] [] = some (.int .i64 i, [LoopTo XNc0 cFi (startAt XNc0 200 87 [.string ⟨⟨t⟩⟩, .int .u8 a, .int .u8 b] J0.tabs Tryz.prog.globals.size []) .ret (tFr i)]) := by kernel_rfl
set_option maxRecDepth 100000 in
theorem fi_we : pureCall XNc0 [told (.exit 0) (fun _ => tFi t a b i)] 200 87 [.string ⟨⟨t⟩⟩, .int .u8 a, .int .u8 b] [] = some (.int .i64 (Int.ofNat t.length), [LoopTo XNc0 cFi (startAt XNc0 200 87 [.string ⟨⟨t⟩⟩, .int .u8 a, .int .u8 b] J0.tabs Tryz.prog.globals.size []) (.exit 0) (tFi t a b i)]) := by kernel_rfl
theorem fi_into {x : AX} {s' : St} (h : LoopTo XNc0 cFi (tFi t a b ((0 : Nat) : Int)) x s') : LoopTo XNc0 cFi (startAt XNc0 200 87 [.string ⟨⟨t⟩⟩, .int .u8 a, .int .u8 b] J0.tabs Tryz.prog.globals.size []) x s' :=
  loop_into' h [] (by kernel_rfl) (by kernel_rfl) (by kernel_rfl)
end
/-- The place of the first of two bytes. -/
def fsN (a b : Int) : List UInt8 → Nat
  | [] => 0
  | c :: r => if fsB (c :: r) a b 0 = true then 0 else fsN a b r + 1
theorem fsN_spec (a b : Int) : ∀ t : List UInt8, fsN a b t ≤ t.length ∧ (∀ i : Nat, i < fsN a b t → fsB t a b (i : Int) = false) ∧ (fsN a b t < t.length → fsB t a b ((fsN a b t : Nat) : Int) = true)
  | [] => ⟨Nat.le_refl _, fun i h => by simp [fsN] at h, fun h => by simp [fsN] at h⟩
  | c :: r => by
    obtain ⟨h1, h2, h3⟩ := fsN_spec a b r
    unfold fsN
    by_cases hb : fsB (c :: r) a b 0 = true
    · rw [if_pos hb]
      exact ⟨Nat.zero_le _, fun i h => by omega, fun _ => hb⟩
    · rw [if_neg hb]
      refine ⟨by rw [List.length_cons]; omega, fun i h => ?_, fun h => ?_⟩
      · cases i with
        | zero => exact Bool.eq_false_iff.2 hb
        | succ i => exact h2 i (by omega)
      · exact h3 (by rw [List.length_cons] at h; omega)
theorem lt_ok {t : List UInt8} {i : Nat} (h : i < t.length) : ltE t (i : Int) = true := decide_eq_true (by omega)
theorem lt_no {t : List UInt8} {i : Nat} (h : ¬i < t.length) : ltE t (i : Int) = false := decide_eq_false (by omega)
theorem in_ok {t : List UInt8} {i : Nat} (h : i < t.length) : inP t (i : Int) := ⟨Int.natCast_nonneg _, h⟩
theorem first_pure {t : List UInt8} {a b : Int} (hl : t.length < 9223372036854775807) : Ev.Pure Tryz.prog J0 87 [.string ⟨⟨t⟩⟩, .int .u8 a, .int .u8 b] (.int .i64 (fsN a b t)) := by
  obtain ⟨h1, h2, h3⟩ := fsN_spec a b t
  have go : ∀ i, i < fsN a b t → Step XNc0 cFi (tFi t a b ((i : Nat) : Int)) .normal (tFi t a b ((i + 1 : Nat) : Int)) := fun i hi => by
    have := fi_go t a b i ⟨h2 i hi, fun _ => in_ok (by omega), in_ok (by omega), lt_ok (by omega), trivial⟩
    rw [wr (by omega) (by omega)] at this
    exact this
  by_cases hlt : fsN a b t < t.length
  · exact pureN bNc0_ok (fi_wr t a b (fsN a b t : Int)) ⟨fi_into t a b (loop_run (fun i => tFi t a b ((i : Nat) : Int)) (fsN a b t) (by intro e; cases e) go (fi_ret t a b _ ⟨h3 hlt, fun _ => in_ok hlt, in_ok hlt, lt_ok hlt, trivial⟩)), trivial⟩
  · have he : fsN a b t = t.length := by omega
    have := pureN bNc0_ok (fi_we t a b (fsN a b t : Int)) ⟨fi_into t a b (loop_run (fun i => tFi t a b ((i : Nat) : Int)) (fsN a b t) (by intro e; cases e) go (fi_end t a b _ ⟨lt_no hlt, trivial⟩)), trivial⟩
    rw [he]
    exact this
def specFi : List Value → Option (Value × List Prop)
  | [.string ⟨⟨t⟩⟩, .int .u8 a, .int .u8 b] => some (.int .i64 (fsN a b t), [t.length < 9223372036854775807])
  | _ => none
theorem specFi_ok (args : List Value) (v : Value) (l : List Prop) (h : specFi args = some (v, l)) (hl : allP l) : Ev.Pure Tryz.prog J0 87 args v := by
  unfold specFi at h
  split at h
  · cases h; exact first_pure hl.1
  · cases h
/-- The letters of an exponent. -/
theorem fs_cut {n m : Nat} (hn : n < 256) (hm : m < 256) : ∀ t : List UInt8, fsN (n : Int) (m : Int) t = cutL [UInt8.ofNat n, UInt8.ofNat m] t
  | [] => rfl
  | c :: r => by
    unfold fsN cutL
    rw [fs_cut hn hm r]
    have e1 := chI_eq (t := c :: r) (k := 0) hn
    have e2 := chI_eq (t := c :: r) (k := 0) hm
    have hb : fsB (c :: r) (n : Int) (m : Int) 0 = true ↔ c ∈ [UInt8.ofNat n, UInt8.ofNat m] := by
      unfold fsB
      show (match chI (c :: r) ((0 : Nat) : Int) == (n : Int) with | true => true | false => chI (c :: r) ((0 : Nat) : Int) == (m : Int)) = true ↔ _
      rw [e1, e2]
      show (match c == UInt8.ofNat n with | true => true | false => c == UInt8.ofNat m) = true ↔ _
      by_cases h1 : c = UInt8.ofNat n
      · rw [h1]; simp
      · rw [beq_false_of_ne h1]
        simp [h1]
    by_cases h : c ∈ [UInt8.ofNat n, UInt8.ofNat m]
    · rw [if_pos h, if_pos (hb.2 h)]
    · rw [if_neg h, if_neg (fun e => h (hb.1 e))]

/-! may -/

def sgT (t : List UInt8) (k : Int) : Bool := match chI t k == 43 with | true => true | false => chI t k == 45
def m1 (t : List UInt8) (k : Int) : Bool := match chI t k == 101 with | true => true | false => chI t k == 69
def m2 (t : List UInt8) (k : Int) : Bool := match m1 t k with | true => true | false => chI t k == 112
def m3 (t : List UInt8) (k : Int) : Bool := match m2 t k with | true => true | false => chI t k == 80
def m0 (k : Int) : Bool := decide (k > 0)
def m4 (t : List UInt8) (k : Int) : Bool := match m0 k with | true => m3 t (IntKind.i64.wrap (k - 1)) | false => false
def pvP (t : List UInt8) (k : Int) : Prop := 0 ≤ IntKind.i64.wrap (k - 1) ∧ (IntKind.i64.wrap (k - 1)).toNat < t.length
def mP1 (t : List UInt8) (k : Int) : Prop := condP [(22, m2 t (IntKind.i64.wrap (k - 1))), (15, m1 t (IntKind.i64.wrap (k - 1))), (8, chI t (IntKind.i64.wrap (k - 1)) == 101), (2, m0 k)] [(22, false), (2, true)] → pvP t k
def mP2 (t : List UInt8) (k : Int) : Prop := condP [(15, m1 t (IntKind.i64.wrap (k - 1))), (8, chI t (IntKind.i64.wrap (k - 1)) == 101), (2, m0 k)] [(15, false), (2, true)] → pvP t k
def mP3 (t : List UInt8) (k : Int) : Prop := condP [(8, chI t (IntKind.i64.wrap (k - 1)) == 101), (2, m0 k)] [(8, false), (2, true)] → pvP t k
def mP4 (t : List UInt8) (k : Int) : Prop := condP [(2, m0 k)] [(2, true)] → pvP t k
def n1 (t : List UInt8) (k : Int) : Bool := match decide (w2V (chI t k) < 99) with | true => true | false => chI t k == 46
def n2 (t : List UInt8) (k : Int) : Bool := match n1 t k with | true => true | false => chI t k == 120
def n3 (t : List UInt8) (k : Int) : Bool := match n2 t k with | true => true | false => chI t k == 88
def n4 (t : List UInt8) (k : Int) : Bool := match n3 t k with | true => true | false => chI t k == 112
def n5 (t : List UInt8) (k : Int) : Bool := match n4 t k with | true => true | false => chI t k == 80
section
variable (t : List UInt8) (i : Int)
set_option maxRecDepth 100000 in
theorem my_sg : pureCall XNc0 [] 200 42 [.string ⟨⟨t⟩⟩, .int .i64 i] [true] = some (.bool (m4 t i), [mP1 t i, mP2 t i, mP3 t i, mP4 t i, sgT t i = true, inP t i]) := by kernel_rfl
set_option maxRecDepth 100000 in
theorem my_no : pureCall XNc0 [] 200 42 [.string ⟨⟨t⟩⟩, .int .i64 i] [false] = some (.bool (n5 t i), [chP t i, sgT t i = false, inP t i]) := by kernel_rfl
end
theorem or_match (x y : Bool) : (match x with | true => true | false => y) = (x || y) := by cases x <;> rfl
theorem sgT_eq {t : List UInt8} (k : Nat) : sgT t (k : Int) = sgC (t.getD k 0) := by
  unfold sgT
  show (match chI t (k : Int) == ((43 : Nat) : Int) with | true => true | false => chI t (k : Int) == ((45 : Nat) : Int)) = _
  rw [chI_eq (by decide), chI_eq (by decide), or_match]
  rfl
theorem m3_eq {t : List UInt8} (k : Nat) : m3 t (k : Int) = letC (t.getD k 0) := by
  unfold m3 m2 m1
  show (match (match (match chI t (k : Int) == ((101 : Nat) : Int) with | true => true | false => chI t (k : Int) == ((69 : Nat) : Int)) with | true => true | false => chI t (k : Int) == ((112 : Nat) : Int)) with | true => true | false => chI t (k : Int) == ((80 : Nat) : Int)) = _
  rw [chI_eq (by decide), chI_eq (by decide), chI_eq (by decide), chI_eq (by decide), or_match, or_match, or_match]
  unfold letC
  rw [Bool.or_assoc, Bool.or_assoc]
  rfl
theorem n5_eq {t : List UInt8} (k : Nat) : n5 t (k : Int) = freeC (t.getD k 0) := by
  unfold n5 n4 n3 n2 n1
  show (match (match (match (match (match decide (w2V (chI t (k : Int)) < 99) with | true => true | false => chI t (k : Int) == ((46 : Nat) : Int)) with | true => true | false => chI t (k : Int) == ((120 : Nat) : Int)) with | true => true | false => chI t (k : Int) == ((88 : Nat) : Int)) with | true => true | false => chI t (k : Int) == ((112 : Nat) : Int)) with | true => true | false => chI t (k : Int) == ((80 : Nat) : Int)) = _
  rw [chI_eq (by decide), chI_eq (by decide), chI_eq (by decide), chI_eq (by decide), chI_eq (by decide), or_match, or_match, or_match, or_match, or_match]
  have hd : decide (w2V (chI t (k : Int)) < 99) = dgB 16 (t.getD k 0) := by
    unfold dgB
    exact decide_eq_decide.2 w2_99
  rw [hd]
  unfold freeC
  rw [Bool.or_assoc, Bool.or_assoc, Bool.or_assoc, Bool.or_assoc]
  rfl
theorem may_pure {t : List UInt8} {k : Nat} (hl : t.length < 9223372036854775807) (hk : k < t.length) : Ev.Pure Tryz.prog J0 42 [.string ⟨⟨t⟩⟩, .int .i64 k] (.bool (mayV t k)) := by
  unfold mayV
  cases hs : sgT t (k : Int) with
  | true =>
    rw [← sgT_eq, if_pos hs]
    have pv : 0 < k → pvP t (k : Int) := fun h => by
      unfold pvP
      rw [wr (by omega) (by omega)]
      omega
    have e0 : ∀ {x : Prop}, (m0 (k : Int) = true → x) → (m0 (k : Int) = true → x) := fun h => h
    have hp : m0 (k : Int) = true → pvP t (k : Int) := fun h => pv (by have := of_decide_eq_true h; omega)
    have := pureN bNc0_ok (my_sg t k) ⟨fun h => hp (by simpa [condP, kvP] using h.2), fun h => hp (by simpa [condP, kvP] using h.2), fun h => hp (by simpa [condP, kvP] using h.2), fun h => hp (by simpa [condP, kvP] using h), hs, in_ok hk, trivial⟩
    have e : m4 t (k : Int) = (decide (0 < k) && letC (t.getD (k - 1) 0)) := by
      unfold m4 m0
      by_cases h : 0 < k
      · rw [decide_eq_true (show (k : Int) > 0 by omega), decide_eq_true h]
        show m3 t (IntKind.i64.wrap ((k : Int) - 1)) = _
        rw [wr (by omega) (by omega), show (k : Int) - 1 = ((k - 1 : Nat) : Int) by omega, m3_eq]
        rfl
      · rw [decide_eq_false (show ¬((k : Int) > 0) by omega), decide_eq_false h]
        rfl
    rw [← e]
    exact this
  | false =>
    have hn : ¬sgC (t.getD k 0) = true := by rw [← sgT_eq, hs]; decide
    rw [if_neg hn, ← n5_eq]
    exact pureN bNc0_ok (my_no t k) ⟨ch_ok t _, hs, in_ok hk, trivial⟩
def specMy : List Value → Option (Value × List Prop)
  | [.string ⟨⟨t⟩⟩, .int .i64 k] => some (.bool (mayV t k.toNat), [t.length < 9223372036854775807 ∧ inP t k])
  | _ => none
theorem specMy_ok (args : List Value) (v : Value) (l : List Prop) (h : specMy args = some (v, l)) (hl : allP l) : Ev.Pure Tryz.prog J0 42 args v := by
  unfold specMy at h
  split at h
  · rename_i t k
    cases h
    obtain ⟨h1, h2, h3⟩ := hl.1
    obtain ⟨n, rfl⟩ := Int.eq_ofNat_of_zero_le h2
    exact may_pure h1 h3
  · cases h
noncomputable def tabNc1 : Tab := tabAdd 87 specFi (tabAdd 42 specMy tabNc0)
theorem tabNc1_ok : PcOk Tryz.prog J0 tabNc1 := tabAdd_ok specFi_ok (tabAdd_ok specMy_ok tabNc0_ok)
noncomputable def bNc1 : Base := ⟨Tryz.prog, J0, false, tabNc1, mtab0, 2000, xtN0⟩
theorem bNc1_ok : BaseOk bNc1 := ⟨progOk, tabNc1_ok, mtab0_ok _ _, xtN0_ok⟩
noncomputable abbrev XNc1 := bNc1.cx 12

end Go.Proofs.YtaopinmjgjpiiaaGreatDoor

/-
  The document's Mantissa, as a contract.
-/
namespace Go.Proofs.YtaopinmjgjpiiaaGreatDoor
open Go Go.RowKit Ev

noncomputable def cMn : Code := loopAt Tryz.prog 88 0
noncomputable def tMz (t : List UInt8) (b p i : Int) : St := ⟨only 53 [(0, .string ⟨⟨t⟩⟩), (1, .int .i64 b), (4, .string ⟨⟨[]⟩⟩), (5, .int .i64 0), (6, .bool false), (7, .slice none 0 0), (8, .int .i64 p), (9, .int .i64 i)], J0.tabs, 11, [], [], 0, none, [], 11⟩
noncomputable def tMn (t : List UInt8) (b : Int) (ns : List Int) (m : Nat) (p i : Int) : St := ⟨only 53 [(0, .string ⟨⟨t⟩⟩), (1, .int .i64 b), (4, .string ⟨⟨[]⟩⟩), (5, .int .i64 0), (6, .bool false), (7, .slice (some ⟨12, 0, some 13⟩) m 0), (8, .int .i64 p), (9, .int .i64 i)], [(12, .row 5 1 (.ints .u8 ns) 13)] ++ J0.tabs, 14, [], [], 0, none, [], 11⟩
noncomputable def tMr : St := ⟨only 53 [(4, .string ⟨⟨[]⟩⟩), (5, .int .i64 0), (6, .bool false)], J0.tabs, 11, [], [], 0, none, [], 11⟩
def apN (m k : Nat) : Prop := m * 1 = k ∧ (m + 1) * 1 ≤ 140737488355328 ∧ m + 1 ≤ 9223372036854775807
def d2B (t : List UInt8) (b k : Int) : Bool := decide (w2V (chI t k) < b)

section
variable (t : List UInt8) (b : Int) (ns : List Int) (m : Nat) (p i : Int)
set_option maxRecDepth 100000 in
theorem mz_pt (hl : allP [dotB t i p = true, inP t i, ltE t i = true]) : Step XNc1 cMn (tMz t b p i) .normal (tMz t b 0 (IntKind.i64.wrap (i + 1))) :=
  step_of (Base.cx_ok bNc1_ok 12).1 progOk.mixed [] 200 [true, true] [] (by kernel_rfl) hl (by kernel_rfl) (by kernel_rfl)
set_option maxRecDepth 100000 in
theorem mz_dg (hl : allP [1 ≤ 140737488355328 ∧ 1 ≤ 9223372036854775807, inP t i, d2B t b i = true, chP t i, inP t i, dotB t i p = false, inP t i, ltE t i = true]) : Step XNc1 cMn (tMz t b p i) .normal (tMn t b [chI t i] 1 p (IntKind.i64.wrap (i + 1))) :=
  step_of (Base.cx_ok bNc1_ok 12).1 progOk.mixed [] 200 [true, false, true] [] (by kernel_rfl) hl (by kernel_rfl) (by kernel_rfl)
set_option maxRecDepth 100000 in
theorem mz_bad (hl : allP [d2B t b i = false, chP t i, inP t i, dotB t i p = false, inP t i, ltE t i = true]) : Step XNc1 cMn (tMz t b p i) .ret tMr :=
  step_of (Base.cx_ok bNc1_ok 12).1 progOk.mixed [] 200 [true, false, false] [] (by kernel_rfl) hl (by kernel_rfl) (by kernel_rfl)
set_option maxRecDepth 100000 in
theorem mz_end (hl : allP [ltE t i = false]) : Step XNc1 cMn (tMz t b p i) (.exit 0) (tMz t b p i) :=
  step_of (Base.cx_ok bNc1_ok 12).1 progOk.mixed [] 200 [false] [] (by kernel_rfl) hl (by kernel_rfl) (by kernel_rfl)
set_option maxRecDepth 100000 in
theorem mq_pt (hl : allP [dotB t i p = true, inP t i, ltE t i = true]) : Step XNc1 cMn (tMn t b ns m p i) .normal (tMn t b ns m m (IntKind.i64.wrap (i + 1))) :=
  step_of (Base.cx_ok bNc1_ok 12).1 progOk.mixed [] 200 [true, true] [] (by kernel_rfl) hl (by kernel_rfl) (by kernel_rfl)
set_option maxRecDepth 100000 in
theorem mq_dg (hl : allP [apN m ns.length, inP t i, d2B t b i = true, chP t i, inP t i, dotB t i p = false, inP t i, ltE t i = true]) : Step XNc1 cMn (tMn t b ns m p i) .normal (tMn t b (ns ++ [chI t i]) (m + 1) p (IntKind.i64.wrap (i + 1))) :=
  step_of (Base.cx_ok bNc1_ok 12).1 progOk.mixed [] 200 [true, false, true] [(12, 15), (13, 16)] (by kernel_rfl) hl (by kernel_rfl) (by kernel_rfl)
set_option maxRecDepth 100000 in
theorem mq_bad (hl : allP [d2B t b i = false, chP t i, inP t i, dotB t i p = false, inP t i, ltE t i = true]) : Step XNc1 cMn (tMn t b ns m p i) .ret tMr :=
  step_of (Base.cx_ok bNc1_ok 12).1 progOk.mixed [] 200 [true, false, false] [] (by kernel_rfl) hl (by kernel_rfl) (by kernel_rfl)
set_option maxRecDepth 100000 in
theorem mq_end (hl : allP [ltE t i = false]) : Step XNc1 cMn (tMn t b ns m p i) (.exit 0) (tMn t b ns m p i) :=
  step_of (Base.cx_ok bNc1_ok 12).1 progOk.mixed [] 200 [false] [] (by kernel_rfl) hl (by kernel_rfl) (by kernel_rfl)
def cMnTo (ds : List Bool) (x : AX) (s : St) : Prop := LoopTo XNc1 cMn (startAt XNc1 200 88 [.string ⟨⟨t⟩⟩, .int .i64 b] J0.tabs Tryz.prog.globals.size ds) x s
set_option maxRecDepth 100000 in
theorem mw_1 : pureCall XNc1 [told (.exit 0) (fun _ => tMn t b ns m p i)] 200 88 [.string ⟨⟨t⟩⟩, .int .i64 b] [true] = some (.tuple ⟨[.string ⟨⟨ns.map (fun (n : Int) => UInt8.ofNat n.toNat)⟩⟩, .int .i64 (IntKind.i64.wrap ((m : Int) - m)), .bool (decide ((0 : Int) < m))]⟩, [m = ns.length, decide (p < 0) = true, cMnTo t b [true] (.exit 0) (tMn t b ns m p i)]) := by kernel_rfl
set_option maxRecDepth 100000 in
theorem mw_2 : pureCall XNc1 [told (.exit 0) (fun _ => tMn t b ns m p i)] 200 88 [.string ⟨⟨t⟩⟩, .int .i64 b] [false] = some (.tuple ⟨[.string ⟨⟨ns.map (fun (n : Int) => UInt8.ofNat n.toNat)⟩⟩, .int .i64 (IntKind.i64.wrap ((m : Int) - p)), .bool (decide ((0 : Int) < m))]⟩, [m = ns.length, decide (p < 0) = false, cMnTo t b [false] (.exit 0) (tMn t b ns m p i)]) := by kernel_rfl
set_option maxRecDepth 100000 in
theorem mw_3 : pureCall XNc1 [told (.exit 0) (fun _ => tMz t b p i)] 200 88 [.string ⟨⟨t⟩⟩, .int .i64 b] [true] = some (.tuple ⟨[.string ⟨⟨[]⟩⟩, .int .i64 0, .bool false]⟩, [decide (p < 0) = true, cMnTo t b [true] (.exit 0) (tMz t b p i)]) := by kernel_rfl
set_option maxRecDepth 100000 in
theorem mw_4 : pureCall XNc1 [told (.exit 0) (fun _ => tMz t b p i)] 200 88 [.string ⟨⟨t⟩⟩, .int .i64 b] [false] = some (.tuple ⟨[.string ⟨⟨[]⟩⟩, .int .i64 (IntKind.i64.wrap (0 - p)), .bool false]⟩, [decide (p < 0) = false, cMnTo t b [false] (.exit 0) (tMz t b p i)]) := by kernel_rfl
set_option maxRecDepth 100000 in
theorem mw_5 : pureCall XNc1 [told .ret (fun _ => tMr)] 200 88 [.string ⟨⟨t⟩⟩, .int .i64 b] [] = some (.tuple ⟨[.string ⟨⟨[]⟩⟩, .int .i64 0, .bool false]⟩, [cMnTo t b [] .ret tMr]) := by kernel_rfl
theorem mn_into (ds : List Bool) {x : AX} {s' : St} (h : LoopTo XNc1 cMn (tMz t b (-1) ((0 : Nat) : Int)) x s') : cMnTo t b ds x s' :=
  loop_into' h [] (by kernel_rfl) (by kernel_rfl) (by kernel_rfl)
end

/-- The digits and the point's place, of a text that is digits with at most one point. -/
def rmL (b : Int) : List UInt8 → List UInt8 → Int → Option (List UInt8 × Int)
  | [], acc, p => some (acc, p)
  | c :: r, acc, p => if c = 46 ∧ (!decide (p < 0)) = false then rmL b r acc acc.length else if dgB b c = true then rmL b r (acc ++ [c]) p else none
def qU (c : UInt8) : Int := Int.ofNat c.toNat
noncomputable def sMn (t : List UInt8) (b : Int) (x : Nat × List UInt8 × Int) : St := if x.2.1 = [] then tMz t b x.2.2 x.1 else tMn t b (x.2.1.map qU) x.2.1.length x.2.2 x.1
def okMn (t : List UInt8) (b : Int) (R : Option (List UInt8 × Int)) (x : Nat × List UInt8 × Int) : Prop := x.1 ≤ t.length ∧ rmL b (t.drop x.1) x.2.1 x.2.2 = R ∧ x.2.1.length ≤ x.1 ∧ (x.2.2 = -1 ∨ (0 ≤ x.2.2 ∧ x.2.2 ≤ x.2.1.length))
/-- What may come next. -/
inductive NxM (t : List UInt8) (b : Int) (R : Option (List UInt8 × Int)) (x : Nat × List UInt8 × Int) : Prop
  | go (y : Nat × List UInt8 × Int) : okMn t b R y → y.1 = x.1 + 1 → Step XNc1 cMn (sMn t b x) .normal (sMn t b y) → NxM t b R x
  | bad : R = none → Step XNc1 cMn (sMn t b x) .ret tMr → NxM t b R x
  | fin : R = some x.2 → x.1 = t.length → Step XNc1 cMn (sMn t b x) (.exit 0) (sMn t b x) → NxM t b R x

theorem mn_step {t : List UInt8} {b : Int} (hb : b ≤ 16) (hl : t.length < 140737488355328) {R : Option (List UInt8 × Int)} {x : Nat × List UInt8 × Int} (hx : okMn t b R x) : NxM t b R x := by
  obtain ⟨i, acc, p⟩ := x
  obtain ⟨h1, h2, h3, h4⟩ := hx
  simp only at h1 h2 h3 h4
  by_cases hi : i < t.length
  · have hin := in_ok hi
    have hlt := lt_ok hi
    have hc := ch_ok t (i : Int)
    have e1 : IntKind.i64.wrap ((i : Int) + 1) = ((i + 1 : Nat) : Int) := by rw [wr (by omega) (by omega)]; omega
    rw [drop_at hi] at h2
    unfold rmL at h2
    by_cases hd : dotB t (i : Int) p = true
    · rw [if_pos (dot_iff.1 hd)] at h2
      refine .go (i + 1, acc, acc.length) ⟨hi, h2, by show acc.length ≤ i + 1; omega, .inr ⟨by show (0 : Int) ≤ (acc.length : Int); omega, Int.le_refl _⟩⟩ rfl ?_
      unfold sMn
      by_cases ha : acc = []
      · rw [if_pos ha, if_pos ha, ha]
        have := mz_pt t b p i ⟨hd, hin, hlt, trivial⟩
        rw [e1] at this
        exact this
      · rw [if_neg ha, if_neg ha]
        have := mq_pt t b (acc.map qU) acc.length p i ⟨hd, hin, hlt, trivial⟩
        rw [e1] at this
        exact this
    · have hdf : dotB t (i : Int) p = false := by simpa using hd
      rw [if_neg (fun e => hd (dot_iff.2 e))] at h2
      by_cases hg : dgB b (t.getD i 0) = true
      · rw [if_pos hg] at h2
        have hg' : d2B t b (i : Int) = true := decide_eq_true ((w2_lt hb).2 (of_decide_eq_true hg))
        refine .go (i + 1, acc ++ [t.getD i 0], p) ⟨hi, h2, by show (acc ++ [t.getD i 0]).length ≤ i + 1; rw [List.length_append, List.length_singleton]; omega, ?_⟩ rfl ?_
        · rcases h4 with h4 | h4
          · exact .inl h4
          · refine .inr ⟨h4.1, ?_⟩
            show p ≤ ((acc ++ [t.getD i 0]).length : Int)
            rw [List.length_append, List.length_singleton]
            omega
        · unfold sMn
          rw [if_neg (show ¬acc ++ [t.getD i 0] = [] by simp)]
          by_cases ha : acc = []
          · rw [if_pos ha, ha]
            have := mz_dg t b p i ⟨⟨by decide, by decide⟩, hin, hg', hc, hin, hdf, hin, hlt, trivial⟩
            rw [e1] at this
            exact this
          · rw [if_neg ha]
            have := mq_dg t b (acc.map qU) acc.length p i ⟨⟨by rw [List.length_map]; omega, by omega, by omega⟩, hin, hg', hc, hin, hdf, hin, hlt, trivial⟩
            rw [e1] at this
            simp only [List.map_append, List.length_append, List.map_cons, List.map_nil, List.length_singleton]
            exact this
      · rw [if_neg hg] at h2
        have hg' : d2B t b (i : Int) = false := decide_eq_false (fun e => hg (decide_eq_true ((w2_lt hb).1 e)))
        refine .bad h2.symm ?_
        unfold sMn
        by_cases ha : acc = []
        · rw [if_pos ha]
          exact mz_bad t b p i ⟨hg', hc, hin, hdf, hin, hlt, trivial⟩
        · rw [if_neg ha]
          exact mq_bad t b (acc.map qU) acc.length p i ⟨hg', hc, hin, hdf, hin, hlt, trivial⟩
  · obtain rfl : i = t.length := by omega
    rw [List.drop_length] at h2
    refine .fin h2.symm rfl ?_
    unfold sMn
    by_cases ha : acc = []
    · rw [if_pos ha]
      exact mz_end t b p _ ⟨lt_no hi, trivial⟩
    · rw [if_neg ha]
      exact mq_end t b (acc.map qU) acc.length p _ ⟨lt_no hi, trivial⟩

theorem mn_start (t : List UInt8) (b : Int) : okMn t b (rmL b t [] (-1)) (0, [], -1) := ⟨Nat.zero_le _, rfl, Nat.le_refl _, .inl rfl⟩
theorem mn_fin {t : List UInt8} {b : Int} (hb : b ≤ 16) (hl : t.length < 140737488355328) {acc : List UInt8} {p : Int} (hR : rmL b t [] (-1) = some (acc, p)) : LoopTo XNc1 cMn (tMz t b (-1) ((0 : Nat) : Int)) (.exit 0) (sMn t b (t.length, acc, p)) ∧ acc.length ≤ t.length ∧ (p = -1 ∨ (0 ≤ p ∧ p ≤ acc.length)) := by
  have key : LoopTo XNc1 cMn (tMz t b (-1) ((0 : Nat) : Int)) (.exit 0) (sMn t b (t.length, acc, p)) :=
    loop_of (ι := Nat × List UInt8 × Int) (sMn t b) (fun x => t.length - x.1) (okMn t b (some (acc, p))) (by intro e; cases e) (fun x hx => by
      rcases mn_step hb hl hx with ⟨y, h1, h2, h3⟩ | ⟨h1, _⟩ | ⟨h1, h2, h3⟩
      · refine .inl ⟨y, h1, ?_, h3⟩
        have := h1.1
        omega
      · cases h1
      · refine .inr ?_
        obtain ⟨i, acc', p'⟩ := x
        cases h1
        simp only at h2 h3 ⊢
        rw [h2] at h3 ⊢
        exact h3) (0, [], -1) (by rw [← hR]; exact mn_start t b)
  refine ⟨key, ?_⟩
  have inv : ∀ (l acc' : List UInt8) (p' : Int), (p' = -1 ∨ (0 ≤ p' ∧ p' ≤ acc'.length)) → rmL b l acc' p' = some (acc, p) → acc.length ≤ acc'.length + l.length ∧ (p = -1 ∨ (0 ≤ p ∧ p ≤ acc.length)) := by
    intro l
    induction l with
    | nil => intro acc' p' h e; cases e; exact ⟨by simp, h⟩
    | cons c r ih =>
      intro acc' p' h e
      unfold rmL at e
      split at e
      · obtain ⟨h1, h2⟩ := ih acc' _ (.inr ⟨by omega, Int.le_refl _⟩) e
        exact ⟨by rw [List.length_cons]; omega, h2⟩
      · split at e
        · obtain ⟨h1, h2⟩ := ih (acc' ++ [c]) p' (by
            rcases h with h | h
            · exact .inl h
            · refine .inr ⟨h.1, ?_⟩
              rw [List.length_append, List.length_singleton]
              omega) e
          rw [List.length_append, List.length_singleton] at h1
          exact ⟨by rw [List.length_cons]; omega, h2⟩
        · cases e
  have := inv t [] (-1) (.inl rfl) hR
  simpa using this
theorem mn_bad {t : List UInt8} {b : Int} (hb : b ≤ 16) (hl : t.length < 140737488355328) (hR : rmL b t [] (-1) = none) : LoopTo XNc1 cMn (tMz t b (-1) ((0 : Nat) : Int)) .ret tMr :=
  loop_of (ι := Nat × List UInt8 × Int) (sMn t b) (fun x => t.length - x.1) (okMn t b none) (by intro e; cases e) (fun x hx => by
    rcases mn_step hb hl hx with ⟨y, h1, h2, h3⟩ | ⟨_, h1⟩ | ⟨h1, h2, h3⟩
    · refine .inl ⟨y, h1, ?_, h3⟩
      have := h1.1
      omega
    · exact .inr h1
    · cases h1) (0, [], -1) (by rw [← hR]; exact mn_start t b)

/-- What it answers. -/
def mnV (t : List UInt8) (b : Int) : List UInt8 × Int × Bool := match rmL b t [] (-1) with
  | none => ([], 0, false)
  | some (acc, p) => (acc, if p < 0 then 0 else (acc.length : Int) - p, decide (0 < acc.length))
theorem map_back (l : List UInt8) : (l.map qU).map (fun (n : Int) => UInt8.ofNat n.toNat) = l := by
  rw [List.map_map]
  refine (List.map_congr_left (g := id) fun b _ => ?_).trans (List.map_id _)
  show UInt8.ofNat (Int.ofNat b.toNat).toNat = b
  simp
theorem Mantissa_pure {t : List UInt8} {b : Int} (hb : b ≤ 16) (hl : t.length < 140737488355328) : Ev.Pure Tryz.prog J0 88 [.string ⟨⟨t⟩⟩, .int .i64 b] (.tuple ⟨[.string ⟨⟨(mnV t b).1⟩⟩, .int .i64 (mnV t b).2.1, .bool (mnV t b).2.2]⟩) := by
  unfold mnV
  cases hR : rmL b t [] (-1) with
  | none => exact pureN bNc1_ok (mw_5 t b) ⟨mn_into t b [] (mn_bad hb hl hR), trivial⟩
  | some r =>
    obtain ⟨acc, p⟩ := r
    obtain ⟨h1, h2, h3⟩ := mn_fin hb hl hR
    unfold sMn at h1
    simp only at h1 ⊢
    by_cases ha : acc = []
    · rw [if_pos ha] at h1
      subst ha
      by_cases hp : p < 0
      · rw [if_pos hp]
        exact pureN bNc1_ok (mw_3 t b p _) ⟨decide_eq_true hp, mn_into t b _ h1, trivial⟩
      · rw [if_neg hp]
        have : p = 0 := by
          rcases h3 with h | ⟨h, h'⟩
          · omega
          · rw [List.length_nil] at h'
            omega
        subst this
        exact pureN bNc1_ok (mw_4 t b 0 _) ⟨rfl, mn_into t b _ h1, trivial⟩
    · rw [if_neg ha] at h1
      have hpos : 0 < acc.length := List.length_pos_iff.2 ha
      have hdd : decide ((0 : Int) < (acc.length : Int)) = decide (0 < acc.length) := by
        rw [decide_eq_true hpos, decide_eq_true (by omega)]
      by_cases hp : p < 0
      · rw [if_pos hp]
        have := pureN bNc1_ok (mw_1 t b (acc.map qU) acc.length p _) ⟨(List.length_map _).symm, decide_eq_true hp, mn_into t b _ h1, trivial⟩
        rw [map_back, hdd, Int.sub_self] at this
        exact this
      · rw [if_neg hp]
        have := pureN bNc1_ok (mw_2 t b (acc.map qU) acc.length p _) ⟨(List.length_map _).symm, decide_eq_false hp, mn_into t b _ h1, trivial⟩
        rw [map_back, hdd, wr (by omega) (by omega)] at this
        exact this
def specMn : List Value → Option (Value × List Prop)
  | [.string ⟨⟨t⟩⟩, .int .i64 b] => some (.tuple ⟨[.string ⟨⟨(mnV t b).1⟩⟩, .int .i64 (mnV t b).2.1, .bool (mnV t b).2.2]⟩, [b ≤ 16 ∧ t.length < 140737488355328])
  | _ => none
theorem specMn_ok (args : List Value) (v : Value) (l : List Prop) (h : specMn args = some (v, l)) (hl : allP l) : Ev.Pure Tryz.prog J0 88 args v := by
  unfold specMn at h
  split at h
  · cases h; exact Mantissa_pure hl.1.1 hl.1.2
  · cases h

end Go.Proofs.YtaopinmjgjpiiaaGreatDoor

/-
  The document's Whole, as a contract; a table with Mantissa and Whole.
-/
namespace Go.Proofs.YtaopinmjgjpiiaaGreatDoor
open Go Go.RowKit Ev

noncomputable def cWh : Code := loopAt Tryz.prog 89 0
noncomputable def tWh (t : List UInt8) (g : Bool) (n i : Int) : St := ⟨only 49 [(0, .string ⟨⟨t⟩⟩), (2, .int .i64 0), (3, .bool false), (4, .bool g), (5, .int .i64 n), (6, .int .i64 i)], J0.tabs, 11, [], [], 0, none, [], 11⟩
noncomputable def tWr : St := ⟨only 49 [(2, .int .i64 0), (3, .bool false)], J0.tabs, 11, [], [], 0, none, [], 11⟩
def d9B (t : List UInt8) (k : Int) : Bool := decide (Int.ofNat 9 < w2V (chI t k))
def nxQ (n w : Int) : Int := if IntKind.i64.wrap (IntKind.i64.wrap (Int.ofNat 10 * n) + w) < Int.ofNat 1099511627776 then IntKind.i64.wrap (IntKind.i64.wrap (Int.ofNat 10 * n) + w) else Int.ofNat 1099511627776
def wsB (t : List UInt8) : Bool := match neB t with | true => sgT t 0 | false => false
def wsP1 (t : List UInt8) : Prop := condP [(6, chI t 0 == 43), (2, neB t)] [(6, false), (2, true)] → (0 : Int) ≤ 0 ∧ (0 : Int).toNat < t.length
def wsP2 (t : List UInt8) : Prop := condP [(2, neB t)] [(2, true)] → (0 : Int) ≤ 0 ∧ (0 : Int).toNat < t.length
def cWhTo (t : List UInt8) (ds : List Bool) (x : AX) (s : St) : Prop := LoopTo XNc1 cWh (startAt XNc1 200 89 [.string ⟨⟨t⟩⟩] J0.tabs Tryz.prog.globals.size ds) x s
def wsQ1 (t : List UInt8) : List Prop := [Int.ofNat 0 ≤ Int.ofNat 1 ∧ Int.ofNat 1 ≤ Int.ofNat t.length, Int.ofNat 0 ≤ Int.ofNat 0 ∧ 0 < t.length, wsB t = true, wsP1 t, wsP2 t]
def wsQ0 (t : List UInt8) : List Prop := [wsB t = false, wsP1 t, wsP2 t]

section
variable (t r : List UInt8) (g : Bool) (n i : Int)
set_option maxRecDepth 100000 in
theorem wh_go (hl : allP [chP t i, inP t i, d9B t i = false, chP t i, inP t i, ltE t i = true]) : Step XNc1 cWh (tWh t g n i) .normal (tWh t g (nxQ n (w2V (chI t i))) (IntKind.i64.wrap (i + 1))) :=
  step_of (Base.cx_ok bNc1_ok 12).1 progOk.mixed [] 200 [true, false] [] (by kernel_rfl) hl (by kernel_rfl) (by kernel_rfl)
set_option maxRecDepth 100000 in
theorem wh_bad (hl : allP [d9B t i = true, chP t i, inP t i, ltE t i = true]) : Step XNc1 cWh (tWh t g n i) .ret tWr :=
  step_of (Base.cx_ok bNc1_ok 12).1 progOk.mixed [] 200 [true, true] [] (by kernel_rfl) hl (by kernel_rfl) (by kernel_rfl)
set_option maxRecDepth 100000 in
theorem wh_end (hl : allP [ltE t i = false]) : Step XNc1 cWh (tWh t g n i) (.exit 0) (tWh t g n i) :=
  step_of (Base.cx_ok bNc1_ok 12).1 progOk.mixed [] 200 [false] [] (by kernel_rfl) hl (by kernel_rfl) (by kernel_rfl)
set_option maxRecDepth 100000 in
theorem ww_1m : pureCall XNc1 [told (.exit 0) (fun _ => tWh r g n i)] 200 89 [.string ⟨⟨t⟩⟩] [true, true] = some (.tuple ⟨[.int .i64 (IntKind.i64.wrap (0 - n)), .bool (!(r == ([] : List UInt8)))]⟩, (g = true) :: cWhTo t [true, true] (.exit 0) (tWh r g n i) :: wsQ1 t) := by kernel_rfl
set_option maxRecDepth 100000 in
theorem ww_1p : pureCall XNc1 [told (.exit 0) (fun _ => tWh r g n i)] 200 89 [.string ⟨⟨t⟩⟩] [true, false] = some (.tuple ⟨[.int .i64 n, .bool (!(r == ([] : List UInt8)))]⟩, (g = false) :: cWhTo t [true, false] (.exit 0) (tWh r g n i) :: wsQ1 t) := by kernel_rfl
set_option maxRecDepth 100000 in
theorem ww_0m : pureCall XNc1 [told (.exit 0) (fun _ => tWh r g n i)] 200 89 [.string ⟨⟨t⟩⟩] [false, true] = some (.tuple ⟨[.int .i64 (IntKind.i64.wrap (0 - n)), .bool (!(r == ([] : List UInt8)))]⟩, (g = true) :: cWhTo t [false, true] (.exit 0) (tWh r g n i) :: wsQ0 t) := by kernel_rfl
set_option maxRecDepth 100000 in
theorem ww_0p : pureCall XNc1 [told (.exit 0) (fun _ => tWh r g n i)] 200 89 [.string ⟨⟨t⟩⟩] [false, false] = some (.tuple ⟨[.int .i64 n, .bool (!(r == ([] : List UInt8)))]⟩, (g = false) :: cWhTo t [false, false] (.exit 0) (tWh r g n i) :: wsQ0 t) := by kernel_rfl
set_option maxRecDepth 100000 in
theorem ww_1r : pureCall XNc1 [told .ret (fun _ => tWr)] 200 89 [.string ⟨⟨t⟩⟩] [true] = some (.tuple ⟨[.int .i64 0, .bool false]⟩, cWhTo t [true] .ret tWr :: wsQ1 t) := by kernel_rfl
set_option maxRecDepth 100000 in
theorem ww_0r : pureCall XNc1 [told .ret (fun _ => tWr)] 200 89 [.string ⟨⟨t⟩⟩] [false] = some (.tuple ⟨[.int .i64 0, .bool false]⟩, cWhTo t [false] .ret tWr :: wsQ0 t) := by kernel_rfl
theorem wh_into1 (ds : List Bool) {x : AX} {s' : St} (h : LoopTo XNc1 cWh (tWh (t.drop 1) (chI t 0 == 45) 0 ((0 : Nat) : Int)) x s') : cWhTo t (true :: ds) x s' :=
  loop_into' h [] (by kernel_rfl) (by kernel_rfl) (by kernel_rfl)
theorem wh_into0 (ds : List Bool) {x : AX} {s' : St} (h : LoopTo XNc1 cWh (tWh t false 0 ((0 : Nat) : Int)) x s') : cWhTo t (false :: ds) x s' :=
  loop_into' h [] (by kernel_rfl) (by kernel_rfl) (by kernel_rfl)
end

def nx2 (n w : Int) : Int := if 10 * n + w < 1099511627776 then 10 * n + w else 1099511627776
theorem nx2_eq {n w : Int} (h0 : 0 ≤ n) (h1 : n ≤ 1099511627776) (w0 : 0 ≤ w) (w1 : w ≤ 99) : nxQ n w = nx2 n w := by
  unfold nxQ nx2
  rw [show Int.ofNat 10 = 10 from rfl, show Int.ofNat 1099511627776 = 1099511627776 from rfl, wr (n := 10 * n) (by omega) (by omega), wr (by omega) (by omega)]
theorem nx2_range {n w : Int} (h0 : 0 ≤ n) (w0 : 0 ≤ w) : 0 ≤ nx2 n w ∧ nx2 n w ≤ 1099511627776 := by
  unfold nx2
  split <;> omega
theorem w2_range {c : Int} : 0 ≤ w2V c ∧ w2V c ≤ 99 := by
  unfold w2V
  split
  · omega
  split
  · omega
  split <;> omega
theorem w2_dg {c : UInt8} (h : dgB 10 c = true) : w2V (Int.ofNat c.toNat) = worthV (Int.ofNat c.toNat) := by
  have := of_decide_eq_true h
  revert this
  unfold w2V worthV
  split
  · intro _; rfl
  split
  · intro _; rfl
  split
  · intro _; rfl
  · intro h; omega
/-- A whole number's digits. -/
def whN : List UInt8 → Int → Option Int
  | [], n => some n
  | c :: r, n => if dgB 10 c = true then whN r (nx2 n (worthV (Int.ofNat c.toNat))) else none

theorem wh_loop {t : List UInt8} {g : Bool} (hl : t.length < 9223372036854775807) : ∀ (f k : Nat) (n : Int), k + f = t.length → 0 ≤ n → n ≤ 1099511627776 →
    (∀ N, whN (t.drop k) n = some N → LoopTo XNc1 cWh (tWh t g n (k : Int)) (.exit 0) (tWh t g N (t.length : Int)) ∧ 0 ≤ N ∧ N ≤ 1099511627776) ∧ (whN (t.drop k) n = none → LoopTo XNc1 cWh (tWh t g n (k : Int)) .ret tWr) := by
  intro f k n hkf h0 h1
  have key : ∀ (f k : Nat) (n : Int), k + f = t.length → 0 ≤ n → n ≤ 1099511627776 → ∀ N, whN (t.drop k) n = some N → 0 ≤ N ∧ N ≤ 1099511627776 := by
    intro f
    induction f with
    | zero => intro k n hk h0 h1 N e; rw [List.drop_of_length_le (by omega)] at e; cases e; exact ⟨h0, h1⟩
    | succ f ih =>
      intro k n hk h0 h1 N e
      rw [drop_at (show k < t.length by omega)] at e
      unfold whN at e
      split at e
      · have hr := nx2_range (w := worthV (Int.ofNat (t.getD k 0).toNat)) h0 worth_range.1
        exact ih (k + 1) _ (by omega) hr.1 hr.2 N e
      · cases e
  have step : ∀ (k : Nat) (n : Int), k < t.length → 0 ≤ n → n ≤ 1099511627776 → (dgB 10 (t.getD k 0) = true → Step XNc1 cWh (tWh t g n (k : Int)) .normal (tWh t g (nx2 n (worthV (Int.ofNat (t.getD k 0).toNat))) ((k + 1 : Nat) : Int))) ∧ (dgB 10 (t.getD k 0) = false → Step XNc1 cWh (tWh t g n (k : Int)) .ret tWr) := by
    intro k n hk h0 h1
    refine ⟨fun hd => ?_, fun hd => ?_⟩
    · have h9 : d9B t (k : Int) = false := decide_eq_false (by
        have := (w2_lt (c := chI t (k : Int)) (b := 10) (by decide)).2 (of_decide_eq_true hd)
        show ¬(9 : Int) < _
        omega)
      have := wh_go t g n k ⟨ch_ok t _, in_ok hk, h9, ch_ok t _, in_ok hk, lt_ok hk, trivial⟩
      have hw : w2V (chI t (k : Int)) = worthV (Int.ofNat (t.getD k 0).toNat) := w2_dg hd
      have hr := worth_range (c := Int.ofNat (t.getD k 0).toNat)
      rw [hw, nx2_eq h0 h1 hr.1 (by omega), wr (by omega) (by omega)] at this
      exact this
    · have h9 : d9B t (k : Int) = true := decide_eq_true (by
        have : ¬w2V (chI t (k : Int)) < 10 := fun e => of_decide_eq_false hd ((w2_lt (by decide)).1 e)
        show (9 : Int) < _
        omega)
      exact wh_bad t g n k ⟨h9, ch_ok t _, in_ok hk, lt_ok hk, trivial⟩
  refine ⟨fun N hN => ⟨?_, key f k n hkf h0 h1 N hN⟩, fun hN => ?_⟩
  · refine loop_of (ι := Nat × Int) (fun x => tWh t g x.2 x.1) (fun x => t.length - x.1) (fun x => x.1 ≤ t.length ∧ 0 ≤ x.2 ∧ x.2 ≤ 1099511627776 ∧ whN (t.drop x.1) x.2 = some N) (by intro e; cases e) (fun x hx => ?_) (k, n) ⟨by show k ≤ _; omega, h0, h1, hN⟩
    obtain ⟨k', n'⟩ := x
    obtain ⟨a1, a2, a3, a4⟩ := hx
    simp only at a1 a2 a3 a4 ⊢
    by_cases hk : k' < t.length
    · rw [drop_at hk] at a4
      unfold whN at a4
      split at a4
      · rename_i hd
        have hr := nx2_range (w := worthV (Int.ofNat (t.getD k' 0).toNat)) a2 worth_range.1
        exact .inl ⟨(k' + 1, _), ⟨hk, hr.1, hr.2, a4⟩, by show t.length - (k' + 1) < t.length - k'; omega, (step k' n' hk a2 a3).1 hd⟩
      · cases a4
    · obtain rfl : k' = t.length := by omega
      rw [List.drop_length] at a4
      cases a4
      exact .inr (wh_end t g _ _ ⟨lt_no hk, trivial⟩)
  · refine loop_of (ι := Nat × Int) (fun x => tWh t g x.2 x.1) (fun x => t.length - x.1) (fun x => x.1 ≤ t.length ∧ 0 ≤ x.2 ∧ x.2 ≤ 1099511627776 ∧ whN (t.drop x.1) x.2 = none) (by intro e; cases e) (fun x hx => ?_) (k, n) ⟨by show k ≤ _; omega, h0, h1, hN⟩
    obtain ⟨k', n'⟩ := x
    obtain ⟨a1, a2, a3, a4⟩ := hx
    simp only at a1 a2 a3 a4 ⊢
    by_cases hk : k' < t.length
    · rw [drop_at hk] at a4
      unfold whN at a4
      split at a4
      · rename_i hd
        have hr := nx2_range (w := worthV (Int.ofNat (t.getD k' 0).toNat)) a2 worth_range.1
        exact .inl ⟨(k' + 1, _), ⟨hk, hr.1, hr.2, a4⟩, by show t.length - (k' + 1) < t.length - k'; omega, (step k' n' hk a2 a3).1 hd⟩
      · rename_i hd
        exact .inr ((step k' n' hk a2 a3).2 (by simpa using hd))
    · obtain rfl : k' = t.length := by omega
      rw [List.drop_length] at a4
      cases a4

/-- What it answers. -/
def whR (t : List UInt8) : List UInt8 := if wsB t = true then t.drop 1 else t
def whG (t : List UInt8) : Bool := wsB t && (chI t 0 == 45)
def whV (t : List UInt8) : Int × Bool := match whN (whR t) 0 with
  | none => (0, false)
  | some n => (if whG t = true then -n else n, !(whR t == ([] : List UInt8)))
theorem Whole_pure {t : List UInt8} (hl : t.length < 9223372036854775807) : Ev.Pure Tryz.prog J0 89 [.string ⟨⟨t⟩⟩] (.tuple ⟨[.int .i64 (whV t).1, .bool (whV t).2]⟩) := by
  have p1 : wsP1 t := fun hc => ⟨by decide, ne_pos (by simpa [condP, kvP] using hc.2)⟩
  have p2 : wsP2 t := fun hc => ⟨by decide, ne_pos (by simpa [condP, kvP] using hc)⟩
  unfold whV whR whG
  cases hs : wsB t with
  | true =>
    have h0 : 0 < t.length := by
      unfold wsB at hs
      cases hn : neB t with
      | true => exact ne_pos hn
      | false => rw [hn] at hs; cases hs
    have q : allP (wsQ1 t) := ⟨⟨by decide, Int.ofNat_le.2 h0⟩, ⟨Int.le_refl _, h0⟩, hs, p1, p2, trivial⟩
    simp only [if_true, Bool.true_and]
    have hl' : (t.drop 1).length < 9223372036854775807 := by rw [List.length_drop]; omega
    obtain ⟨k1, k2⟩ := wh_loop (g := chI t 0 == 45) hl' (t.drop 1).length 0 0 (Nat.zero_add _) (Int.le_refl _) (by decide)
    rw [List.drop_zero] at k1 k2
    cases hN : whN (t.drop 1) 0 with
    | none => exact pureN bNc1_ok (ww_1r t) ⟨wh_into1 t [] (k2 hN), q⟩
    | some N =>
      obtain ⟨h1, h2, h3⟩ := k1 N hN
      simp only
      cases hg : (chI t 0 == 45) with
      | true =>
        rw [hg] at h1
        have := pureN bNc1_ok (ww_1m t (t.drop 1) true N (t.drop 1).length) ⟨rfl, wh_into1 t _ (by rw [hg]; exact h1), q⟩
        rw [wr (by omega) (by omega), Int.zero_sub] at this
        exact this
      | false =>
        rw [hg] at h1
        exact pureN bNc1_ok (ww_1p t (t.drop 1) false N (t.drop 1).length) ⟨rfl, wh_into1 t _ (by rw [hg]; exact h1), q⟩
  | false =>
    have q : allP (wsQ0 t) := ⟨hs, p1, p2, trivial⟩
    simp only [Bool.false_eq_true, if_false, Bool.false_and]
    obtain ⟨k1, k2⟩ := wh_loop (g := false) hl t.length 0 0 (Nat.zero_add _) (Int.le_refl _) (by decide)
    rw [List.drop_zero] at k1 k2
    cases hN : whN t 0 with
    | none => exact pureN bNc1_ok (ww_0r t) ⟨wh_into0 t [] (k2 hN), q⟩
    | some N =>
      obtain ⟨h1, h2, h3⟩ := k1 N hN
      exact pureN bNc1_ok (ww_0p t t false N t.length) ⟨rfl, wh_into0 t _ h1, q⟩
def specWh : List Value → Option (Value × List Prop)
  | [.string ⟨⟨t⟩⟩] => some (.tuple ⟨[.int .i64 (whV t).1, .bool (whV t).2]⟩, [t.length < 9223372036854775807])
  | _ => none
theorem specWh_ok (args : List Value) (v : Value) (l : List Prop) (h : specWh args = some (v, l)) (hl : allP l) : Ev.Pure Tryz.prog J0 89 args v := by
  unfold specWh at h
  split at h
  · cases h; exact Whole_pure hl.1
  · cases h
noncomputable def tabNc2 : Tab := tabAdd 88 specMn (tabAdd 89 specWh tabNc1)
theorem tabNc2_ok : PcOk Tryz.prog J0 tabNc2 := tabAdd_ok specMn_ok (tabAdd_ok specWh_ok tabNc1_ok)
noncomputable def bNc2 : Base := ⟨Tryz.prog, J0, false, tabNc2, mtab0, 2000, xtN0⟩
theorem bNc2_ok : BaseOk bNc2 := ⟨progOk, tabNc2_ok, mtab0_ok _ _, xtN0_ok⟩
noncomputable abbrev XNc2 := bNc2.cx 12

end Go.Proofs.YtaopinmjgjpiiaaGreatDoor

/-
  The document's Bare and Prefix, as contracts; Prefix answers what the program's does.
-/
namespace Go.Proofs.YtaopinmjgjpiiaaGreatDoor
open Go Go.RowKit Ev

def mnU (a b base : Int) (u : List UInt8) : List UInt8 × Int × Bool := mnV (u.take (fsN a b u)) base
def mnB (a b base : Int) (u : List UInt8) : Bool := match (mnU a b base u).2.2 with | true => decide (((fsN a b u : Nat) : Int) < (u.length : Int)) | false => false
def tlU (a b : Int) (u : List UInt8) : List UInt8 := u.drop (IntKind.i64.wrap (((fsN a b u : Nat) : Int) + 1)).toNat
/-- The letters, the base, how many exponents a digit is worth; the text behind 0x. -/
def bdQ1 (a b base : Int) (u : List UInt8) : List Prop := [(tlU a b u).length < 9223372036854775807, Int.ofNat 0 ≤ IntKind.i64.wrap (((fsN a b u : Nat) : Int) + 1) ∧ IntKind.i64.wrap (((fsN a b u : Nat) : Int) + 1) ≤ Int.ofNat u.length, mnB a b base u = true, base ≤ 16 ∧ (u.take (fsN a b u)).length < 140737488355328, Int.ofNat 0 ≤ ((fsN a b u : Nat) : Int) ∧ ((fsN a b u : Nat) : Int) ≤ Int.ofNat u.length]
def bdQ0 (a b base : Int) (u : List UInt8) : List Prop := [mnB a b base u = false, base ≤ 16 ∧ (u.take (fsN a b u)).length < 140737488355328, Int.ofNat 0 ≤ ((fsN a b u : Nat) : Int) ∧ ((fsN a b u : Nat) : Int) ≤ Int.ofNat u.length]
def hxQ (t : List UInt8) : List Prop := [(t.drop 2).length < 9223372036854775807, Int.ofNat 0 ≤ Int.ofNat 2 ∧ Int.ofNat 2 ≤ Int.ofNat t.length, hxB t = true, hP1 t, hP2 t, hP3 t, t.length < 9223372036854775807]
def dcQ (t : List UInt8) : List Prop := [hxB t = false, hP1 t, hP2 t, hP3 t, t.length < 9223372036854775807]
def bdR1 (a b base y : Int) (u : List UInt8) : Value := .tuple ⟨[.string ⟨⟨(mnU a b base u).1⟩⟩, .int .i64 base, .int .i64 (IntKind.i64.wrap ((whV (tlU a b u)).1 - IntKind.i64.wrap (y * (mnU a b base u).2.1))), .bool (whV (tlU a b u)).2]⟩
def bdR0 (a b base y : Int) (u : List UInt8) : Value := .tuple ⟨[.string ⟨⟨(mnU a b base u).1⟩⟩, .int .i64 base, .int .i64 (IntKind.i64.wrap (0 - IntKind.i64.wrap (y * (mnU a b base u).2.1))), .bool (mnU a b base u).2.2]⟩
section
variable (t : List UInt8)
set_option maxRecDepth 100000 in
theorem rb_11 : pureCall XNc2 [] 200 43 [.string ⟨⟨t⟩⟩] [true, true] = some (bdR1 112 80 16 4 (t.drop 2), bdQ1 112 80 16 (t.drop 2) ++ hxQ t) := by kernel_rfl
set_option maxRecDepth 100000 in
theorem rb_10 : pureCall XNc2 [] 200 43 [.string ⟨⟨t⟩⟩] [true, false] = some (bdR0 112 80 16 4 (t.drop 2), bdQ0 112 80 16 (t.drop 2) ++ hxQ t) := by kernel_rfl
set_option maxRecDepth 100000 in
theorem rb_01 : pureCall XNc2 [] 200 43 [.string ⟨⟨t⟩⟩] [false, true] = some (bdR1 101 69 10 1 t, bdQ1 101 69 10 t ++ dcQ t) := by kernel_rfl
set_option maxRecDepth 100000 in
theorem rb_00 : pureCall XNc2 [] 200 43 [.string ⟨⟨t⟩⟩] [false, false] = some (bdR0 101 69 10 1 t, bdQ0 101 69 10 t ++ dcQ t) := by kernel_rfl
end

/-- What Bare answers: the digits, the exponent, whether it is one. -/
def bdV (a b base y : Int) (u : List UInt8) : List UInt8 × Int × Int × Bool :=
  if mnB a b base u = true then ((mnU a b base u).1, base, (whV (u.drop (fsN a b u + 1))).1 - y * (mnU a b base u).2.1, (whV (u.drop (fsN a b u + 1))).2) else ((mnU a b base u).1, base, -(y * (mnU a b base u).2.1), (mnU a b base u).2.2)
def rbV (t : List UInt8) : List UInt8 × Int × Int × Bool := if hxB t = true then bdV 112 80 16 4 (t.drop 2) else bdV 101 69 10 1 t
def tupV (x : List UInt8 × Int × Int × Bool) : Value := .tuple ⟨[.string ⟨⟨x.1⟩⟩, .int .i64 x.2.1, .int .i64 x.2.2.1, .bool x.2.2.2]⟩

def ptI (b : Int) (l : List UInt8) (n : Nat) (p : Int) : Int := if p < 0 then (match idxP b l with | none => p | some j => ((n + j : Nat) : Int)) else p
theorem rm_eq {b : Int} (hb : b ≤ 16) : ∀ (l acc : List UInt8) (p : Int), rmL b l acc p = if segOK b l (!decide (p < 0)) = true then some (acc ++ segD b l (!decide (p < 0)), ptI b l acc.length p) else none
  | [], acc, p => by
    simp only [rmL, segOK, segD, if_true, List.append_nil]
    unfold ptI
    split <;> rfl
  | c :: r, acc, p => by
    unfold rmL segOK segD
    by_cases h1 : c = 46 ∧ (!decide (p < 0)) = false
    · have hd : ¬dgB b c = true := by rw [h1.1, dot_dg hb]; decide
      have hp : p < 0 := by
        have := h1.2
        simpa using this
      rw [if_pos h1, if_pos h1, if_neg hd, if_pos h1, rm_eq hb r acc acc.length, decide_eq_false (show ¬((acc.length : Int) < 0) by omega)]
      simp only [Bool.not_false]
      have e : ptI b r acc.length (acc.length : Int) = ptI b (c :: r) acc.length p := by
        unfold ptI
        rw [if_neg (by omega), if_pos hp]
        unfold idxP
        rw [if_neg hd, if_pos h1.1]
        rfl
      rw [e]
    · rw [if_neg h1, if_neg h1]
      by_cases hd : dgB b c = true
      · rw [if_pos hd, if_pos hd, if_pos hd, rm_eq hb r (acc ++ [c]) p]
        have e : ptI b r (acc ++ [c]).length p = ptI b (c :: r) acc.length p := by
          unfold ptI
          rw [show idxP b (c :: r) = (idxP b r).map (· + 1) from if_pos hd, List.length_append, List.length_singleton]
          split
          · cases idxP b r with
            | none => rfl
            | some j => show ((acc.length + 1 + j : Nat) : Int) = ((acc.length + (j + 1) : Nat) : Int); omega
          · rfl
        rw [e, List.append_assoc]
        rfl
      · rw [if_neg hd, if_neg hd]
        rfl
/-- The digits behind the point, of a text that is digits with at most one. -/
def bhS (b : Int) (l : List UInt8) : Int := match idxP b l with
  | none => 0
  | some j => ((segD b l false).length : Int) - j
theorem mn_eq {b : Int} (hb : b ≤ 16) (l : List UInt8) : mnV l b = if segOK b l false = true then (segD b l false, bhS b l, decide (0 < (segD b l false).length)) else ([], 0, false) := by
  unfold mnV
  rw [rm_eq hb]
  show (match (if segOK b l false = true then some ([] ++ segD b l false, ptI b l 0 (-1)) else none) with | none => _ | some (acc, p) => _) = _
  by_cases h : segOK b l false = true
  · rw [if_pos h, if_pos h]
    simp only [List.nil_append]
    have e : (if ptI b l 0 (-1) < 0 then 0 else ((segD b l false).length : Int) - ptI b l 0 (-1)) = bhS b l := by
      have e0 : ptI b l 0 (-1) = match idxP b l with | none => -1 | some j => ((0 + j : Nat) : Int) := if_pos (by decide)
      rw [e0]
      unfold bhS
      cases idxP b l with
      | none => rfl
      | some j =>
        show (if ((0 + j : Nat) : Int) < 0 then 0 else ((segD b l false).length : Int) - ((0 + j : Nat) : Int)) = _
        rw [if_neg (by omega)]
        show _ = ((segD b l false).length : Int) - (j : Int)
        omega
    rw [e]
  · rw [if_neg h, if_neg h]
theorem wsB_iff (t : List UInt8) : wsB t = true ↔ sgN t = 1 := by
  unfold wsB neB
  cases t with
  | nil => simp [sgN]
  | cons c r =>
    have h0 := sgT_eq (t := c :: r) 0
    have h1 : sgT (c :: r) 0 = sgC c := h0
    show (match !(c :: r == []) with | true => sgT (c :: r) 0 | false => false) = true ↔ (if sgC c = true then 1 else 0) = 1
    rw [h1]
    show sgC c = true ↔ _
    cases sgC c <;> decide
theorem whR_eq (t : List UInt8) : whR t = t.drop (sgN t) := by
  unfold whR
  by_cases h : wsB t = true
  · rw [if_pos h, (wsB_iff t).1 h]
  · have h1 := sgN_one t
    have : ¬sgN t = 1 := fun e => h ((wsB_iff t).2 e)
    rw [if_neg h, show sgN t = 0 by omega, List.drop_zero]
theorem whN_some : ∀ (r : List UInt8) (n : Int), (whN r n).isSome = r.all (dgB 10)
  | [], n => rfl
  | c :: r, n => by
    unfold whN
    rw [List.all_cons]
    by_cases h : dgB 10 c = true
    · rw [if_pos h, h, Bool.true_and, whN_some r]
    · rw [if_neg h, show dgB 10 c = false by simpa using h]
      rfl
theorem wh_ok (t : List UInt8) : (whV t).2 = whOk t := by
  have h := whN_some (whR t) 0
  unfold whV whOk
  rw [← whR_eq, ← h]
  cases whN (whR t) 0 with
  | none => simp
  | some n =>
    show (!(whR t == [])) = (!(whR t).isEmpty && true)
    cases whR t <;> rfl

theorem fsN_le (a b : Int) (t : List UInt8) : fsN a b t ≤ t.length := (fsN_spec a b t).1
theorem bd_pure {t u : List UInt8} {a b base y : Int} (hy : 1 ≤ y ∧ y ≤ 4) (hb : base ≤ 16) (hu : u.length < 140737488355328) {l : List Prop} (hl : allP l)
    (h1 : ∃ ds, pureCall XNc2 [] 200 43 [.string ⟨⟨t⟩⟩] ds = some (bdR1 a b base y u, bdQ1 a b base u ++ l)) (h0 : ∃ ds, pureCall XNc2 [] 200 43 [.string ⟨⟨t⟩⟩] ds = some (bdR0 a b base y u, bdQ0 a b base u ++ l)) :
    Ev.Pure Tryz.prog J0 43 [.string ⟨⟨t⟩⟩] (tupV (bdV a b base y u)) := by
  obtain ⟨d1, h1⟩ := h1
  obtain ⟨d0, h0⟩ := h0
  have hf := fsN_le a b u
  have ht : (u.take (fsN a b u)).length < 140737488355328 := by rw [List.length_take]; omega
  have hw : IntKind.i64.wrap (((fsN a b u : Nat) : Int) + 1) = ((fsN a b u + 1 : Nat) : Int) := by rw [wr (by omega) (by omega)]; omega
  have q3 : Int.ofNat 0 ≤ ((fsN a b u : Nat) : Int) ∧ ((fsN a b u : Nat) : Int) ≤ Int.ofNat u.length := ⟨Int.natCast_nonneg _, Int.ofNat_le.2 hf⟩
  have hm : 0 ≤ (mnU a b base u).2.1 ∧ (mnU a b base u).2.1 ≤ 140737488355328 := by
    unfold mnU
    rw [mn_eq hb]
    have hsl : ∀ (l : List UInt8) (s : Bool), (segD base l s).length ≤ l.length := by
      intro l
      induction l with
      | nil => intro s; simp [segD]
      | cons c r ih =>
        intro s
        have i1 := ih s
        have i2 := ih true
        unfold segD
        rw [List.length_cons]
        split
        · rw [List.length_cons]; omega
        · split
          · omega
          · simp
    have hid : ∀ (l : List UInt8) (j : Nat), idxP base l = some j → segOK base l false = true → j ≤ (segD base l false).length := by
      intro l
      induction l with
      | nil => intro j h; cases h
      | cons c r ih =>
        intro j h ho
        unfold idxP at h
        unfold segD
        unfold segOK at ho
        by_cases hd : dgB base c = true
        · rw [if_pos hd] at h
          rw [if_pos hd, List.length_cons]
          have hc : ¬(c = 46 ∧ false = false) := fun e => by rw [e.1, dot_dg hb] at hd; cases hd
          rw [if_neg hc, if_pos hd] at ho
          cases hi : idxP base r with
          | none => rw [hi] at h; cases h
          | some i =>
            rw [hi] at h
            cases h
            have := ih i hi ho
            show i + 1 ≤ _
            omega
        · rw [if_neg hd] at h
          by_cases hc : c = 46
          · rw [if_pos hc] at h
            cases h
            exact Nat.zero_le _
          · rw [if_neg hc] at h; cases h
    split
    · rename_i ho
      have := hsl (u.take (fsN a b u)) false
      show 0 ≤ bhS base _ ∧ bhS base _ ≤ _
      unfold bhS
      cases hi : idxP base (u.take (fsN a b u)) with
      | none => exact ⟨Int.le_refl 0, show (0 : Int) ≤ 140737488355328 by decide⟩
      | some j =>
        have := hid _ j hi ho
        simp only
        omega
    · exact ⟨by decide, by decide⟩
  have hym : IntKind.i64.wrap (y * (mnU a b base u).2.1) = y * (mnU a b base u).2.1 ∧ 0 ≤ y * (mnU a b base u).2.1 ∧ y * (mnU a b base u).2.1 ≤ 562949953421312 := by
    have g0 : 0 ≤ y * (mnU a b base u).2.1 := Int.mul_nonneg (by omega) hm.1
    have g1 : y * (mnU a b base u).2.1 ≤ 4 * 140737488355328 := by
      refine Int.le_trans (Int.mul_le_mul_of_nonneg_right hy.2 hm.1) (Int.mul_le_mul_of_nonneg_left hm.2 (by decide))
    exact ⟨wr (by omega) (by omega), g0, g1⟩
  unfold bdV
  cases hB : mnB a b base u with
  | true =>
    simp only [if_true]
    have hlt : fsN a b u < u.length := by
      unfold mnB at hB
      cases hk : (mnU a b base u).2.2 with
      | true => rw [hk] at hB; have := of_decide_eq_true hB; omega
      | false => rw [hk] at hB; cases hB
    have hT : tlU a b u = u.drop (fsN a b u + 1) := by unfold tlU; rw [hw, Int.toNat_natCast]
    have := pureN bNc2_ok h1 ((allP_append _ _).2 ⟨⟨by rw [hT, List.length_drop]; omega, ⟨by rw [hw]; exact Int.natCast_nonneg _, by rw [hw]; exact Int.ofNat_le.2 hlt⟩, hB, ⟨hb, ht⟩, q3, trivial⟩, hl⟩)
    unfold bdR1 at this
    have hv : -1099511627776 ≤ (whV (u.drop (fsN a b u + 1))).1 ∧ (whV (u.drop (fsN a b u + 1))).1 ≤ 1099511627776 := by
      obtain ⟨k1, _⟩ := wh_loop (g := false) (t := whR (u.drop (fsN a b u + 1))) (by rw [whR_eq, List.length_drop, List.length_drop]; omega) _ 0 0 (Nat.zero_add _) (Int.le_refl _) (by decide)
      rw [List.drop_zero] at k1
      unfold whV
      cases hN : whN (whR (u.drop (fsN a b u + 1))) 0 with
      | none => exact ⟨show (-1099511627776 : Int) ≤ 0 by decide, show (0 : Int) ≤ 1099511627776 by decide⟩
      | some N =>
        obtain ⟨_, c2, c3⟩ := k1 N hN
        simp only
        split <;> omega
    rw [hT, hym.1, wr (by omega) (by omega)] at this
    exact this
  | false =>
    simp only [Bool.false_eq_true, if_false]
    have := pureN bNc2_ok h0 ((allP_append _ _).2 ⟨⟨hB, ⟨hb, ht⟩, q3, trivial⟩, hl⟩)
    unfold bdR0 at this
    rw [hym.1, wr (by omega) (by omega), Int.zero_sub] at this
    exact this
theorem Bare_pure {t : List UInt8} (hl : t.length < 140737488355328) : Ev.Pure Tryz.prog J0 43 [.string ⟨⟨t⟩⟩] (tupV (rbV t)) := by
  obtain ⟨p1, p2, p3⟩ := hP_ok t
  unfold rbV
  cases hx : hxB t with
  | true =>
    simp only [if_true]
    have h2 : 2 ≤ t.length := by
      rw [hx_eq] at hx
      obtain ⟨d, r, ht, _⟩ := hx_cases hx
      rw [ht]
      simp
    exact bd_pure (by decide) (by decide) (by rw [List.length_drop]; omega) (l := hxQ t) ⟨by rw [List.length_drop]; omega, ⟨by decide, Int.ofNat_le.2 h2⟩, hx, p1, p2, p3, by omega, trivial⟩ ⟨_, rb_11 t⟩ ⟨_, rb_10 t⟩
  | false =>
    simp only [Bool.false_eq_true, if_false]
    exact bd_pure (by decide) (by decide) hl (l := dcQ t) ⟨hx, p1, p2, p3, by omega, trivial⟩ ⟨_, rb_01 t⟩ ⟨_, rb_00 t⟩

theorem bd_ok {n m : Nat} (hn : n < 256) (hm : m < 256) {base y : Int} (hb : base ≤ 16) (u : List UInt8) : (bdV (n : Int) (m : Int) base y u).2.2.2 = coreB base [UInt8.ofNat n, UInt8.ofNat m] u := by
  have hf := fsN_le n m u
  have hc := fs_cut hn hm u
  unfold bdV mnB mnU coreB
  rw [hc] at hf ⊢
  rw [mn_eq hb]
  have hpos : ∀ l : List UInt8, decide (0 < l.length) = !l.isEmpty := fun l => by cases l <;> rfl
  by_cases ho : segOK base (u.take (cutL [UInt8.ofNat n, UInt8.ofNat m] u)) false = true
  · rw [if_pos ho, ho]
    simp only [hpos, Bool.true_and]
    cases he : (segD base (u.take (cutL [UInt8.ofNat n, UInt8.ofNat m] u)) false).isEmpty with
    | true => simp
    | false =>
      simp only [Bool.not_false, Bool.true_and]
      by_cases hlt : cutL [UInt8.ofNat n, UInt8.ofNat m] u < u.length
      · rw [decide_eq_true (show ((cutL [UInt8.ofNat n, UInt8.ofNat m] u : Nat) : Int) < (u.length : Int) by omega)]
        simp only [if_true]
        rw [drop_at hlt, wh_ok]
        rfl
      · rw [decide_eq_false (show ¬((cutL [UInt8.ofNat n, UInt8.ofNat m] u : Nat) : Int) < (u.length : Int) by omega), List.drop_of_length_le (show u.length ≤ cutL [UInt8.ofNat n, UInt8.ofNat m] u by omega)]
        simp [tailOk]
  · rw [if_neg ho]
    simp [ho]
theorem rb_ok (t : List UInt8) : (rbV t).2.2.2 = rbOk t := by
  unfold rbV rbOk
  rw [hx_eq]
  by_cases h : hxL t = true
  · rw [if_pos h, if_pos h]
    exact bd_ok (n := 112) (m := 80) (by decide) (by decide) (by decide) _
  · rw [if_neg h, if_neg h]
    exact bd_ok (n := 101) (m := 69) (by decide) (by decide) (by decide) _

def specBr : List Value → Option (Value × List Prop)
  | [.string ⟨⟨t⟩⟩] => some (.tuple ⟨[.string ⟨⟨(rbV t).1⟩⟩, .int .i64 (rbV t).2.1, .int .i64 (rbV t).2.2.1, .bool (rbV t).2.2.2]⟩, [t.length < 140737488355328])
  | _ => none
theorem specBr_ok (args : List Value) (v : Value) (l : List Prop) (h : specBr args = some (v, l)) (hl : allP l) : Ev.Pure Tryz.prog J0 43 args v := by
  unfold specBr at h
  split at h
  · cases h; exact Bare_pure hl.1
  · cases h
noncomputable def tabNc3 : Tab := tabAdd 43 specBr tabNc2
theorem tabNc3_ok : PcOk Tryz.prog J0 tabNc3 := tabAdd_ok specBr_ok tabNc2_ok
noncomputable def bNc3 : Base := ⟨Tryz.prog, J0, false, tabNc3, mtab0, 2000, xtN0⟩
theorem bNc3_ok : BaseOk bNc3 := ⟨progOk, tabNc3_ok, mtab0_ok _ _, xtN0_ok⟩
noncomputable abbrev XNc3 := bNc3.cx 12

/-! Prefix -/

noncomputable def cPf : Code := loopAt Tryz.prog 9 0
noncomputable def tPf (t : List UInt8) (n i : Int) : St := ⟨only 34 [(0, .string ⟨⟨t⟩⟩), (3, .int .i64 n), (4, .int .i64 i)], J0.tabs, 11, [], [], 0, none, [], 11⟩
def pyB (t : List UInt8) (i : Int) : Bool := match decide (i < (t.length : Int)) with | true => mayV t i.toNat | false => false
def pyP (t : List UInt8) (i : Int) : Prop := condP [(4, decide (i < (t.length : Int)))] [(4, true)] → t.length < 9223372036854775807 ∧ inP t i
def pyT (t : List UInt8) (i : Int) : List UInt8 := t.take (IntKind.i64.wrap (i + 1)).toNat
section
variable (t : List UInt8) (n i : Int)
set_option maxRecDepth 100000 in
theorem pf_yes (hl : allP [(rbV (pyT t i)).2.2.2 = true, (pyT t i).length < 140737488355328, Int.ofNat 0 ≤ IntKind.i64.wrap (i + 1) ∧ IntKind.i64.wrap (i + 1) ≤ Int.ofNat t.length, pyB t i = true, pyP t i]) : Step XNc3 cPf (tPf t n i) .normal (tPf t (IntKind.i64.wrap (i + 1)) (IntKind.i64.wrap (i + 1))) :=
  step_of (Base.cx_ok bNc3_ok 12).1 progOk.mixed [] 200 [true, true] [] (by kernel_rfl) hl (by kernel_rfl) (by kernel_rfl)
set_option maxRecDepth 100000 in
theorem pf_not (hl : allP [(rbV (pyT t i)).2.2.2 = false, (pyT t i).length < 140737488355328, Int.ofNat 0 ≤ IntKind.i64.wrap (i + 1) ∧ IntKind.i64.wrap (i + 1) ≤ Int.ofNat t.length, pyB t i = true, pyP t i]) : Step XNc3 cPf (tPf t n i) .normal (tPf t n (IntKind.i64.wrap (i + 1))) :=
  step_of (Base.cx_ok bNc3_ok 12).1 progOk.mixed [] 200 [true, false] [] (by kernel_rfl) hl (by kernel_rfl) (by kernel_rfl)
set_option maxRecDepth 100000 in
theorem pf_end (hl : allP [pyB t i = false, pyP t i]) : Step XNc3 cPf (tPf t n i) (.exit 0) (tPf t n i) :=
  step_of (Base.cx_ok bNc3_ok 12).1 progOk.mixed [] 200 [false] [] (by kernel_rfl) hl (by kernel_rfl) (by kernel_rfl)
set_option maxRecDepth 100000 in
theorem pf_all : pureCall XNc3 [told (.exit 0) (fun _ => tPf t n i)] 200 9 [.string ⟨⟨t⟩⟩] [] = some (.int .i64 n, [LoopTo XNc3 cPf (startAt XNc3 200 9 [.string ⟨⟨t⟩⟩] J0.tabs Tryz.prog.globals.size []) (.exit 0) (tPf t n i)]) := by kernel_rfl
theorem pf_into {x : AX} {s' : St} (h : LoopTo XNc3 cPf (tPf t ((0 : Nat) : Int) ((0 : Nat) : Int)) x s') : LoopTo XNc3 cPf (startAt XNc3 200 9 [.string ⟨⟨t⟩⟩] J0.tabs Tryz.prog.globals.size []) x s' :=
  loop_into' h [] (by kernel_rfl) (by kernel_rfl) (by kernel_rfl)
end
/-- Where the search stops. -/
def pfJ (t : List UInt8) : Nat → Nat → Nat
  | 0, i => i
  | f + 1, i => if mayV t i = true then pfJ t f (i + 1) else i
theorem pf_loop {t : List UInt8} (hl : t.length < 140737488355328) (N J : Nat) (hN : pfGo t t.length 0 0 = N) (hJ : pfJ t t.length 0 = J) : LoopTo XNc3 cPf (tPf t ((0 : Nat) : Int) ((0 : Nat) : Int)) (.exit 0) (tPf t (N : Int) (J : Int)) := by
  have hpy : ∀ i : Nat, pyP t (i : Int) := fun i hc => ⟨by omega, in_ok (by
    have : ((i : Nat) : Int) < (t.length : Int) := by simpa [condP, kvP] using hc
    omega)⟩
  refine loop_of (ι := Nat × Nat) (fun x => tPf t (x.2 : Int) (x.1 : Int)) (fun x => t.length - x.1) (fun x => x.1 ≤ t.length ∧ pfGo t (t.length - x.1) x.1 x.2 = N ∧ pfJ t (t.length - x.1) x.1 = J) (by intro e; cases e) (fun x hx => ?_) (0, 0) ⟨Nat.zero_le _, hN, hJ⟩
  obtain ⟨i, n⟩ := x
  obtain ⟨a1, a2, a3⟩ := hx
  simp only at a1 a2 a3 ⊢
  by_cases hi : i < t.length
  · obtain ⟨f, hf⟩ : ∃ f, t.length - i = f + 1 := ⟨t.length - i - 1, by omega⟩
    have hf' : t.length - (i + 1) = f := by omega
    rw [hf] at a2 a3
    unfold pfGo at a2
    unfold pfJ at a3
    have hb : pyB t (i : Int) = mayV t i := by unfold pyB; rw [decide_eq_true (by omega)]; rfl
    have e1 : IntKind.i64.wrap ((i : Int) + 1) = ((i + 1 : Nat) : Int) := by rw [wr (by omega) (by omega)]; omega
    have hT : pyT t (i : Int) = t.take (i + 1) := by unfold pyT; rw [e1, Int.toNat_natCast]
    cases hm : mayV t i with
    | true =>
      rw [hm] at a2 a3
      simp only [if_true] at a2 a3
      have hTl : (pyT t (i : Int)).length < 140737488355328 := by rw [hT, List.length_take]; omega
      have hq : Int.ofNat 0 ≤ IntKind.i64.wrap ((i : Int) + 1) ∧ IntKind.i64.wrap ((i : Int) + 1) ≤ Int.ofNat t.length := by rw [e1]; exact ⟨Int.natCast_nonneg _, Int.ofNat_le.2 hi⟩
      cases hr : rbOk (t.take (i + 1)) with
      | true =>
        rw [hr] at a2
        simp only [if_true] at a2
        refine .inl ⟨(i + 1, i + 1), ⟨hi, by rw [hf']; exact a2, by rw [hf']; exact a3⟩, by show t.length - (i + 1) < t.length - i; omega, ?_⟩
        have := pf_yes t n i ⟨by rw [hT, rb_ok, hr], hTl, hq, by rw [hb, hm], hpy i, trivial⟩
        rw [e1] at this
        exact this
      | false =>
        rw [hr] at a2
        simp only [Bool.false_eq_true, if_false] at a2
        refine .inl ⟨(i + 1, n), ⟨hi, by rw [hf']; exact a2, by rw [hf']; exact a3⟩, by show t.length - (i + 1) < t.length - i; omega, ?_⟩
        have := pf_not t n i ⟨by rw [hT, rb_ok, hr], hTl, hq, by rw [hb, hm], hpy i, trivial⟩
        rw [e1] at this
        exact this
    | false =>
      rw [hm] at a2 a3
      simp only [Bool.false_eq_true, if_false] at a2 a3
      subst a2
      subst a3
      exact .inr (pf_end t n i ⟨by rw [hb, hm], hpy i, trivial⟩)
  · have h0 : t.length - i = 0 := by omega
    rw [h0] at a2 a3
    have a2 : n = N := a2
    have a3 : i = J := a3
    subst a2
    subst a3
    exact .inr (pf_end t n i ⟨by unfold pyB; rw [decide_eq_false (by omega)], hpy i, trivial⟩)
/-- The document's Prefix is the program's. -/
theorem prefix2_pure {t : List UInt8} (hl : t.length < 140737488355328) : Ev.Pure Tryz.prog J0 9 [.string ⟨⟨t⟩⟩] (.int .i64 (bareN t)) := by
  have hj := pf_loop hl (bareN t) _ (pfGo_eq (by omega) t.length 0 0 (Nat.zero_add _) (by omega)) rfl
  exact pureN bNc3_ok (pf_all t (bareN t) _) ⟨pf_into t hj, trivial⟩

end Go.Proofs.YtaopinmjgjpiiaaGreatDoor
