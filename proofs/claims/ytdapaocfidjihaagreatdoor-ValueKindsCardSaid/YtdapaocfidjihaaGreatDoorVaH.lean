/-
  Layer 14 (values): ValueCompares, as a contract.
-/
import Derived.Test.YtdapaocfidjihaaGreatDoorVaG
import Derived.Test.YtdapaocfidjihaaGreatDoorVaA
namespace Go.Proofs.YtdapaocfidjihaaGreatDoor
open Go Go.RowKit Ev VaS

noncomputable def tabV5 : Tab :=
  tabAdd 21 (fun args => match args with
    | [] => some (.bool true, [])
    | _ => none)
  (fun f args => match Nat.beq f 28 with
    | true => match args with
      | [.int .i64 op, .agg ⟨[.int .i64 k, .float .f64 x, .string ⟨⟨s⟩⟩, .bool b, .int .i64 g]⟩, .agg ⟨[.int .i64 k', .float .f64 x', .string ⟨⟨s'⟩⟩, .bool b', .int .i64 g']⟩] => some (vv (compareV op ⟨k, x, s, b, g⟩ ⟨k', x', s', b', g'⟩), [Okv ⟨k, x, s, b, g⟩, Okv ⟨k', x', s', b', g'⟩])
      | _ => none
    | false => match Nat.beq f 33 with
      | true => match args with
        | [.int .i64 op, .agg ⟨[.int .i64 k, .float .f64 x, .string ⟨⟨s⟩⟩, .bool b, .int .i64 g]⟩, .agg ⟨[.int .i64 k', .float .f64 x', .string ⟨⟨s'⟩⟩, .bool b', .int .i64 g']⟩] => some (vv (refCompareV op ⟨k, x, s, b, g⟩ ⟨k', x', s', b', g'⟩), [Okv ⟨k, x, s, b, g⟩, Okv ⟨k', x', s', b', g'⟩])
        | _ => none
      | false => tabV4 f args)

theorem tabV5_ok : PcOk Tryz.prog J0 tabV5 := by
  refine tabAdd_ok (fun args v l h _ => ?_) (fun f args v l h hl => ?_)
  · split at h
    · cases h; exact awake14
    · cases h
  · simp only at h
    split at h
    · rename_i hf
      have hf := Nat.eq_of_beq_eq_true hf
      subst hf
      split at h
      · cases h; exact compare_pure _ ⟨_, _, _, _, _⟩ ⟨_, _, _, _, _⟩ hl.1 hl.2.1
      · cases h
    · split at h
      · rename_i hf
        have hf := Nat.eq_of_beq_eq_true hf
        subst hf
        split at h
        · cases h; exact rcompare_pure _ ⟨_, _, _, _, _⟩ ⟨_, _, _, _, _⟩ hl.1 hl.2.1
        · cases h
      · exact tabV4_ok f args v l h hl

noncomputable def bV5 : Base := ⟨Tryz.prog, J0, false, tabV5, mtab0, 200, xtN0⟩
theorem bV5_ok : BaseOk bV5 := ⟨progOk, tabV5_ok, mtab0_ok _ _, xtN0_ok⟩

def sameV (v w : Val) : Bool :=
  match match match match (Int.ofNat v.x == Int.ofNat w.x) with | true => v.k == w.k | false => false with | true => (v.s == w.s) | false => false with | true => v.b == w.b | false => false with | true => v.f == w.f | false => false

theorem same_pure (v w : Val) : Pure Tryz.prog J0 30 [vv v, vv w] (.bool (sameV v w)) :=
  pure_of bV5_ok 5 [] [] (l := []) (by kernel_rfl) trivial

theorem sameV_self (v : Val) : sameV v v = true := by
  unfold sameV
  simp

noncomputable def tabV6 : Tab := tabAdd 30 (v2 fun v w => (.bool (sameV v w), [])) tabV5
theorem tabV6_ok : PcOk Tryz.prog J0 tabV6 := tabAdd_ok (v2_ok fun v w _ => same_pure v w) tabV5_ok
noncomputable def bV6 : Base := ⟨Tryz.prog, J0, false, tabV6, mtab0, 200, xtN0⟩
theorem bV6_ok : BaseOk bV6 := ⟨progOk, tabV6_ok, mtab0_ok _ _, xtN0_ok⟩

/-- ValueCompares is true of any operation and any two values. -/
theorem compares_pure (op : Int) (v w : Val) (hv : Okv v) (hw : Okv w) : Pure Tryz.prog J0 10 [vi op, vv v, vv w] (.bool true) := by
  have := pure_of bV6_ok 5 [] [] (f := 10) (args := [vi op, vv v, vv w]) (v := .bool (match match true with | true => sameV (compareV op v w) (refCompareV op v w) | false => false with | true => sameV (compareV op w v) (refCompareV op w v) | false => false))
    (l := [Okv w, Okv v, Okv w, Okv v, Okv v, Okv w, Okv v, Okv w]) (by kernel_rfl) ⟨hw, hv, hw, hv, hv, hw, hv, hw, trivial⟩
  rw [compare_law op v w hv.x hw.x, compare_law op w v hw.x hv.x, sameV_self, sameV_self] at this
  exact this

end Go.Proofs.YtdapaocfidjihaaGreatDoor
