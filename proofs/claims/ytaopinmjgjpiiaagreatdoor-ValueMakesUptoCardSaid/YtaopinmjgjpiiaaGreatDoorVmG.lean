/-
  ValueMakes as a contract: of a text of ordinary length.
-/
import Derived.Test.YtaopinmjgjpiiaaGreatDoorVmF
import Derived.Test.YtaopinmjgjpiiaaGreatDoorVaA
namespace Go.Proofs.YtaopinmjgjpiiaaGreatDoor
open Go Go.RowKit Ev VaS

noncomputable def tabVm4 : Tab := tabAdd 20 (atS [([], .bool true)]) tabVm3
theorem tabVm4_ok : PcOk Tryz.prog J0 tabVm4 := tabAdd_ok (atS_ok (fun p hp => by simp only [List.mem_cons, List.not_mem_nil, or_false] at hp; subst hp; exact awake14)) tabVm3_ok
noncomputable def bVm4 : Base := ⟨Tryz.prog, J0, false, tabVm4, mtab0, 2000, xtN0⟩
theorem bVm4_ok : BaseOk bVm4 := ⟨progOk, tabVm4_ok, mtab0_ok _ _, xtN0_ok⟩
def am (a b : Bool) : Bool := match a with
  | true => b
  | false => false
theorem am_eq (a b : Bool) : am a b = (a && b) := by cases a <;> rfl
def smV (k : Int) (x : Nat) (s : List UInt8) (b : Bool) (f : Int) : Bool := am (am (am (am ((x : Int) == (x : Int)) (k == k)) (s == s)) (b == b)) (f == f)
theorem smV_eq (k : Int) (x : Nat) (s : List UInt8) (b : Bool) (f : Int) : smV k x s b f = true := by
  unfold smV
  simp only [am_eq, beq_self_eq_true, Bool.and_self]
def vmR (a f e : Int) (t : List UInt8) : Bool := am (am (am (am (am (am (am (am (am true (smV 1 (oneX a.toNat) [] false 0)) (smV (otK t) 0 (otS t) false (otF t))) (smV 3 0 [] (f.tmod 2 == 0) 0)) (smV 4 0 [] false (ofF f))) (smV (beK e) (beX e a.toNat) [] false (beF e))) (ftS f == ftS f)) (ftE f == ftE f)) (pfN (t.map capC) == pfN (t.map capC))) (pfE (t.map capC) == pfE (t.map capC))
set_option maxRecDepth 100000 in
theorem vm_way (a f e : Int) (t : List UInt8) : pureCall (bVm4.cx 12) [] 200 6 [.int .u64 a, .string ⟨⟨t⟩⟩, .int .i64 f, .int .i64 e] [] = some (.bool (vmR a f e t), [t.length ≤ 1048576, t.length ≤ 1048576, a.toNat < 18446744073709551616, a.toNat < 18446744073709551616, t.length ≤ 1048576, t.length ≤ 1048576, a.toNat < 18446744073709551616, a.toNat < 18446744073709551616]) := by kernel_rfl
/-- The law answers true. -/
theorem valueMakes_pure (a : Int) (ha : a.toNat < 18446744073709551616) (t : List UInt8) (hl : t.length ≤ 1048576) (f e : Int) : Ev.Pure Tryz.prog J0 6 [.int .u64 a, .string ⟨⟨t⟩⟩, .int .i64 f, .int .i64 e] (.bool true) := by
  have := pureN bVm4_ok (vm_way a f e t) ⟨hl, hl, ha, ha, hl, hl, ha, ha, trivial⟩
  have e1 : vmR a f e t = true := by
    unfold vmR
    simp only [am_eq, smV_eq, beq_self_eq_true, Bool.and_self]
  rw [e1] at this
  exact this

end Go.Proofs.YtaopinmjgjpiiaaGreatDoor
