/-
  number.worth as a contract: what a digit is worth.
-/
import Derived.Test.YtaopinmjgjpiiaaGreatDoorFoC
namespace Go.Proofs.YtaopinmjgjpiiaaGreatDoor
open Go Go.RowKit Ev

def worthV (c : Int) : Int := if 48 ≤ c ∧ c ≤ 57 then c - 48 else if 97 ≤ c ∧ c ≤ 102 then c - 87 else if 65 ≤ c ∧ c ≤ 70 then c - 55 else 16
def inC (a b c : Int) : Bool := match decide (a ≤ c) with | true => decide (c ≤ b) | false => false
theorem inB_iff {a b c : Int} : inC a b c = true ↔ a ≤ c ∧ c ≤ b := by
  unfold inC
  by_cases h : a ≤ c <;> simp [h]
theorem inB_not {a b c : Int} : inC a b c = false ↔ ¬(a ≤ c ∧ c ≤ b) := by
  rw [← inB_iff]
  cases inC a b c <;> simp
section
variable (c : Int)
theorem wo_1 : pureCall (bKn.cx 12) [] 200 142 [.int .u8 c] [true] = some (.int .i64 (IntKind.i64.wrap (IntKind.u8.wrap (c - Int.ofNat 48))), [inC 48 57 c = true]) := by kernel_rfl
theorem wo_2 : pureCall (bKn.cx 12) [] 200 142 [.int .u8 c] [false, true] = some (.int .i64 (IntKind.i64.wrap (IntKind.i64.wrap (IntKind.u8.wrap (c - Int.ofNat 97)) + Int.ofNat 10)), [inC 97 102 c = true, inC 48 57 c = false]) := by kernel_rfl
theorem wo_3 : pureCall (bKn.cx 12) [] 200 142 [.int .u8 c] [false, false, true] = some (.int .i64 (IntKind.i64.wrap (IntKind.i64.wrap (IntKind.u8.wrap (c - Int.ofNat 65)) + Int.ofNat 10)), [inC 65 70 c = true, inC 97 102 c = false, inC 48 57 c = false]) := by kernel_rfl
theorem wo_4 : pureCall (bKn.cx 12) [] 200 142 [.int .u8 c] [false, false, false] = some (.int .i64 16, [inC 65 70 c = false, inC 97 102 c = false, inC 48 57 c = false]) := by kernel_rfl
end
theorem u8_id {n : Int} (h0 : 0 ≤ n) (h1 : n < 256) : IntKind.u8.wrap n = n := by
  simp [IntKind.wrap, IntKind.bits, IntKind.signed]
  omega
theorem i64_id {n : Int} (h0 : -9223372036854775808 ≤ n) (h1 : n ≤ 9223372036854775807) : IntKind.i64.wrap n = n := by
  simp [IntKind.wrap, IntKind.bits, IntKind.signed]
  omega
theorem pureN {b : Base} (hb : BaseOk b) {k : Nat} {L : Hints} {fuel : Nat} {ds : List Bool} {f : FuncId} {args : List Value} {v : Value} {l : List Prop} (h : pureCall (b.cx k) L fuel f args ds = some (v, l)) (hl : allP l) : Ev.Pure b.P b.J f args v := by
  obtain ⟨h1, h2⟩ := Base.cx_ok hb k
  have := pureCall_sound h1 h2 h hl
  cases k with
  | zero => exact this
  | succ k => exact this
theorem int_cast {P : Program} {J : Ev.Inv P} {f : FuncId} {args : List Value} {x y : Int} (h : Ev.Pure P J f args (.int .i64 x)) (e : x = y) : Ev.Pure P J f args (.int .i64 y) := e ▸ h
theorem worth_pure {c : Int} (h0 : 0 ≤ c) (h1 : c < 256) : Ev.Pure Tryz.prog J0 142 [.int .u8 c] (.int .i64 (worthV c)) := by
  unfold worthV
  by_cases a : 48 ≤ c ∧ c ≤ 57
  · rw [if_pos a]
    exact int_cast (pureN bKn_ok (wo_1 c) ⟨inB_iff.2 a, trivial⟩) (by rw [show Int.ofNat 48 = 48 from rfl, u8_id (by omega) (by omega), i64_id (by omega) (by omega)])
  rw [if_neg a]
  by_cases b : 97 ≤ c ∧ c ≤ 102
  · rw [if_pos b]
    exact int_cast (pureN bKn_ok (wo_2 c) ⟨inB_iff.2 b, inB_not.2 a, trivial⟩) (by rw [show Int.ofNat 97 = 97 from rfl, show Int.ofNat 10 = 10 from rfl, u8_id (by omega) (by omega), i64_id (n := c - 97) (by omega) (by omega), i64_id (by omega) (by omega)]; omega)
  rw [if_neg b]
  by_cases d : 65 ≤ c ∧ c ≤ 70
  · rw [if_pos d]
    exact int_cast (pureN bKn_ok (wo_3 c) ⟨inB_iff.2 d, inB_not.2 b, inB_not.2 a, trivial⟩) (by rw [show Int.ofNat 65 = 65 from rfl, show Int.ofNat 10 = 10 from rfl, u8_id (by omega) (by omega), i64_id (n := c - 65) (by omega) (by omega), i64_id (by omega) (by omega)]; omega)
  rw [if_neg d]
  exact pureN bKn_ok (wo_4 c) ⟨inB_not.2 d, inB_not.2 b, inB_not.2 a, trivial⟩
theorem worth_range {c : Int} : 0 ≤ worthV c ∧ worthV c ≤ 16 := by
  unfold worthV
  split
  · omega
  split
  · omega
  split <;> omega

def specWorth : List Value → Option (Value × List Prop)
  | [.int .u8 c] => some (.int .i64 (worthV c), [0 ≤ c ∧ c < 256])
  | _ => none
theorem specWorth_ok (args : List Value) (v : Value) (l : List Prop) (h : specWorth args = some (v, l)) (hl : allP l) : Ev.Pure Tryz.prog J0 142 args v := by
  unfold specWorth at h
  split at h
  · cases h; exact worth_pure hl.1.1 hl.1.2
  · cases h
noncomputable def tabNb0 : Tab := tabAdd 142 specWorth tabN0
theorem tabNb0_ok : PcOk Tryz.prog J0 tabNb0 := tabAdd_ok specWorth_ok tabN0_ok
noncomputable def bNb0 : Base := ⟨Tryz.prog, J0, false, tabNb0, mtab0, 2000, xtN0⟩
theorem bNb0_ok : BaseOk bNb0 := ⟨progOk, tabNb0_ok, mtab0_ok _ _, xtN0_ok⟩
noncomputable abbrev XNb0 := bNb0.cx 12

end Go.Proofs.YtaopinmjgjpiiaaGreatDoor
