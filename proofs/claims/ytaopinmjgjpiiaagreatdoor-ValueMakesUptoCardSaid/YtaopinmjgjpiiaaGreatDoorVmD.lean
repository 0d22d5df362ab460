/-
  Values that are made of anything, faults' texts: the program's functions and the document's, as contracts.
-/
import Derived.Test.YtaopinmjgjpiiaaGreatDoorVmB
import Derived.Test.YtaopinmjgjpiiaaGreatDoorVmQ
namespace Go.Proofs.YtaopinmjgjpiiaaGreatDoor
open Go Go.RowKit Ev VaS

/-! Numbers. -/

theorem ofIv {x : Nat} (hx : x < 18446744073709551616) : (BitVec.ofInt IntKind.u64.bits (x : Int)).toNat = x := by
  show (BitVec.ofInt 64 (x : Int)).toNat = x
  rw [BitVec.ofInt_natCast, BitVec.toNat_ofNat]
  exact Nat.mod_eq_of_lt hx
theorem wUv {n : Nat} (h : n < 18446744073709551616) : IntKind.u64.wrap (n : Int) = (n : Int) := by
  simp [IntKind.wrap, IntKind.bits, IntKind.signed]
  omega
def neB1 (x : Nat) : Bool := Ieee.double.order x x != some .eq
def rnB (x : Nat) : Bool := decide (Int.ofNat 9218868437227405312 < IntKind.u64.wrap ↑(BitVec.ofInt IntKind.u64.bits (x : Int) &&& ~~~BitVec.ofInt IntKind.u64.bits 9223372036854775808).toNat)
theorem neB1_eq {x : Nat} (hx : x < 18446744073709551616) : neB1 x = nanB x := by
  unfold neB1
  rw [order_eq hx hx]
  unfold ordF
  cases nanB x <;> simp
theorem rnB_eq {x : Nat} (hx : x < 18446744073709551616) : rnB x = nanB x := by
  unfold rnB nanB
  have h3 : (BitVec.ofInt IntKind.u64.bits (x : Int) &&& ~~~BitVec.ofInt IntKind.u64.bits 9223372036854775808).toNat = x % p63 := by
    rw [BitVec.toNat_and, ofIv hx, show (~~~BitVec.ofInt IntKind.u64.bits 9223372036854775808).toNat = 2 ^ 63 - 1 by decide]
    exact Nat.and_two_pow_sub_one_eq_mod _ 63
  have hm : x % p63 < 2 ^ 63 := Nat.mod_lt _ (by decide)
  rw [h3, wUv (by omega)]
  exact decide_eq_decide.2 Int.ofNat_lt
section
variable (x : Nat)
set_option maxRecDepth 100000 in
theorem vo_1 : pureCall XVm [] 200 65 [.float .f64 x] [true] = some (.float .f64 9221120237041090560, [neB1 x = true]) := by kernel_rfl
set_option maxRecDepth 100000 in
theorem vo_2 : pureCall XVm [] 200 65 [.float .f64 x] [false] = some (.float .f64 x, [neB1 x = false]) := by kernel_rfl
set_option maxRecDepth 100000 in
theorem vr_1 : pureCall XVm [] 200 116 [.int .u64 (x : Int)] [true] = some (.int .u64 9221120237041090560, [rnB x = true]) := by kernel_rfl
set_option maxRecDepth 100000 in
theorem vr_2 : pureCall XVm [] 200 116 [.int .u64 (x : Int)] [false] = some (.int .u64 (x : Int), [rnB x = false]) := by kernel_rfl
end
def specOn1 : List Value → Option (Value × List Prop)
  | [.float .f64 x] => some (.float .f64 (oneX x), [x < 18446744073709551616])
  | _ => none
def specOn2 : List Value → Option (Value × List Prop)
  | [.int .u64 (.ofNat x)] => some (.int .u64 (.ofNat (oneX x)), [x < 18446744073709551616])
  | _ => none
theorem specOn1_ok (args : List Value) (v : Value) (l : List Prop) (h : specOn1 args = some (v, l)) (hl : allP l) : Ev.Pure Tryz.prog J0 65 args v := by
  unfold specOn1 at h
  split at h
  case h_2 => cases h
  rename_i x
  cases h
  have hx := hl.1
  have e := neB1_eq hx
  unfold oneX
  cases hn : nanB x with
  | true => rw [hn] at e; simp only [if_true]; exact pureN bKn_ok (vo_1 x) ⟨e, trivial⟩
  | false => rw [hn] at e; simp only [Bool.false_eq_true, if_false]; exact pureN bKn_ok (vo_2 x) ⟨e, trivial⟩
theorem specOn2_ok (args : List Value) (v : Value) (l : List Prop) (h : specOn2 args = some (v, l)) (hl : allP l) : Ev.Pure Tryz.prog J0 116 args v := by
  unfold specOn2 at h
  split at h
  case h_2 => cases h
  rename_i x
  cases h
  have hx := hl.1
  have e := rnB_eq hx
  unfold oneX
  cases hn : nanB x with
  | true => rw [hn] at e; simp only [if_true]; exact pureN bKn_ok (vr_1 x) ⟨e, trivial⟩
  | false => rw [hn] at e; simp only [Bool.false_eq_true, if_false]; exact pureN bKn_ok (vr_2 x) ⟨e, trivial⟩

/-! Texts. -/

def specCp1 : List Value → Option (Value × List Prop)
  | [.string ⟨⟨t⟩⟩] => some (.string ⟨⟨Lib.mapD capR t⟩⟩, [t.length ≤ 1048576])
  | _ => none
def specCp2 : List Value → Option (Value × List Prop)
  | [.string ⟨⟨t⟩⟩] => some (.string ⟨⟨t.map capC⟩⟩, [t.length ≤ 1048576])
  | _ => none
def specVl : List Value → Option (Value × List Prop)
  | [.string ⟨⟨t⟩⟩] => some (.bool (Lib.validD t), [t.length ≤ 1048576])
  | _ => none
theorem specCp1_ok (args : List Value) (v : Value) (l : List Prop) (h : specCp1 args = some (v, l)) (hl : allP l) : Ev.Pure Tryz.prog J0 71 args v := by
  unfold specCp1 at h
  split at h
  · cases h
    have := hl.1
    exact capitals_pure (by omega)
  · cases h
theorem specCp2_ok (args : List Value) (v : Value) (l : List Prop) (h : specCp2 args = some (v, l)) (hl : allP l) : Ev.Pure Tryz.prog J0 72 args v := by
  unfold specCp2 at h
  split at h
  · cases h
    have := hl.1
    exact Capital_pure (by omega)
  · cases h
theorem specVl_ok1 (args : List Value) (v : Value) (l : List Prop) (h : specVl args = some (v, l)) (hl : allP l) : Ev.Pure Tryz.prog J0 117 args v := by
  unfold specVl at h
  split at h
  · cases h
    have := hl.1
    exact validString_pure _ (by omega)
  · cases h
theorem specVl_ok2 (args : List Value) (v : Value) (l : List Prop) (h : specVl args = some (v, l)) (hl : allP l) : Ev.Pure Tryz.prog J0 118 args v := by
  unfold specVl at h
  split at h
  · cases h
    have := hl.1
    exact utf8_pure _ (by omega)
  · cases h
noncomputable def tabVm1 : Tab := tabAdd 65 specOn1 (tabAdd 116 specOn2 (tabAdd 71 specCp1 (tabAdd 72 specCp2 (tabAdd 117 specVl (tabAdd 118 specVl tabN0)))))
theorem tabVm1_ok : PcOk Tryz.prog J0 tabVm1 := tabAdd_ok specOn1_ok (tabAdd_ok specOn2_ok (tabAdd_ok specCp1_ok (tabAdd_ok specCp2_ok (tabAdd_ok specVl_ok1 (tabAdd_ok specVl_ok2 tabN0_ok)))))
noncomputable def bVm1 : Base := ⟨Tryz.prog, J0, false, tabVm1, mtab0, 2000, xtN0⟩
theorem bVm1_ok : BaseOk bVm1 := ⟨progOk, tabVm1_ok, mtab0_ok _ _, xtN0_ok⟩
noncomputable abbrev XVm1 := bVm1.cx 12

end Go.Proofs.YtaopinmjgjpiiaaGreatDoor
