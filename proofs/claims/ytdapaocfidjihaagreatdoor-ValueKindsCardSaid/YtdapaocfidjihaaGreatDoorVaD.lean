/-
  Layer 14 (values): the small contracts put together; how two values stand.
-/
import Derived.Test.YtdapaocfidjihaaGreatDoorVaC
namespace Go.Proofs.YtdapaocfidjihaaGreatDoor
open Go Go.RowKit Ev VaS

abbrev Sp := List Value → Option (Value × List Prop)
def SpOk (f : FuncId) (s : Sp) : Prop := ∀ args v l, s args = some (v, l) → allP l → Pure Tryz.prog J0 f args v

def v1 (g : Val → Value × List Prop) : Sp
  | [.agg ⟨[.int .i64 k, .float .f64 x, .string ⟨⟨s⟩⟩, .bool b, .int .i64 f]⟩] => some (g ⟨k, x, s, b, f⟩)
  | _ => none
def v2 (g : Val → Val → Value × List Prop) : Sp
  | [.agg ⟨[.int .i64 k, .float .f64 x, .string ⟨⟨s⟩⟩, .bool b, .int .i64 f]⟩, .agg ⟨[.int .i64 k', .float .f64 x', .string ⟨⟨s'⟩⟩, .bool b', .int .i64 f']⟩] => some (g ⟨k, x, s, b, f⟩ ⟨k', x', s', b', f'⟩)
  | _ => none
def i1 (g : Int → Value × List Prop) : Sp
  | [.int .i64 x] => some (g x)
  | _ => none
def i2 (g : Int → Int → Value × List Prop) : Sp
  | [.int .i64 x, .int .i64 y] => some (g x y)
  | _ => none
def b1 (g : Bool → Value × List Prop) : Sp
  | [.bool x] => some (g x)
  | _ => none
def u1 (g : Nat → Value × List Prop) : Sp
  | [.int .u64 (.ofNat x)] => some (g x)
  | _ => none
def u2 (g : Nat → Nat → Value × List Prop) : Sp
  | [.int .u64 (.ofNat x), .int .u64 (.ofNat y)] => some (g x y)
  | _ => none
def x1 (g : Nat → Value × List Prop) : Sp
  | [.float .f64 x] => some (g x)
  | _ => none
def x2 (g : Nat → Nat → Value × List Prop) : Sp
  | [.float .f64 x, .float .f64 y] => some (g x y)
  | _ => none
def s2 (g : List UInt8 → List UInt8 → Value × List Prop) : Sp
  | [.string ⟨⟨x⟩⟩, .string ⟨⟨y⟩⟩] => some (g x y)
  | _ => none

section
variable {f : FuncId}
theorem v1_ok {g : Val → Value × List Prop} (h : ∀ v, allP (g v).2 → Pure Tryz.prog J0 f [vv v] (g v).1) : SpOk f (v1 g) := by
  intro args v l hs hl
  unfold v1 at hs
  split at hs
  · injection hs with hs; have e1 := congrArg Prod.fst hs; have e2 := congrArg Prod.snd hs; simp only at e1 e2; rw [← e1]; exact h _ (by rw [e2]; exact hl)
  · cases hs
theorem v2_ok {g : Val → Val → Value × List Prop} (h : ∀ v w, allP (g v w).2 → Pure Tryz.prog J0 f [vv v, vv w] (g v w).1) : SpOk f (v2 g) := by
  intro args v l hs hl
  unfold v2 at hs
  split at hs
  · injection hs with hs; have e1 := congrArg Prod.fst hs; have e2 := congrArg Prod.snd hs; simp only at e1 e2; rw [← e1]; exact h _ _ (by rw [e2]; exact hl)
  · cases hs
theorem i1_ok {g : Int → Value × List Prop} (h : ∀ v, allP (g v).2 → Pure Tryz.prog J0 f [vi v] (g v).1) : SpOk f (i1 g) := by
  intro args v l hs hl
  unfold i1 at hs
  split at hs
  · injection hs with hs; have e1 := congrArg Prod.fst hs; have e2 := congrArg Prod.snd hs; simp only at e1 e2; rw [← e1]; exact h _ (by rw [e2]; exact hl)
  · cases hs
theorem i2_ok {g : Int → Int → Value × List Prop} (h : ∀ v w, allP (g v w).2 → Pure Tryz.prog J0 f [vi v, vi w] (g v w).1) : SpOk f (i2 g) := by
  intro args v l hs hl
  unfold i2 at hs
  split at hs
  · injection hs with hs; have e1 := congrArg Prod.fst hs; have e2 := congrArg Prod.snd hs; simp only at e1 e2; rw [← e1]; exact h _ _ (by rw [e2]; exact hl)
  · cases hs
theorem b1_ok {g : Bool → Value × List Prop} (h : ∀ v, allP (g v).2 → Pure Tryz.prog J0 f [.bool v] (g v).1) : SpOk f (b1 g) := by
  intro args v l hs hl
  unfold b1 at hs
  split at hs
  · injection hs with hs; have e1 := congrArg Prod.fst hs; have e2 := congrArg Prod.snd hs; simp only at e1 e2; rw [← e1]; exact h _ (by rw [e2]; exact hl)
  · cases hs
theorem u1_ok {g : Nat → Value × List Prop} (h : ∀ v, allP (g v).2 → Pure Tryz.prog J0 f [.int .u64 (Int.ofNat v)] (g v).1) : SpOk f (u1 g) := by
  intro args v l hs hl
  unfold u1 at hs
  split at hs
  · injection hs with hs; have e1 := congrArg Prod.fst hs; have e2 := congrArg Prod.snd hs; simp only at e1 e2; rw [← e1]; exact h _ (by rw [e2]; exact hl)
  · cases hs
theorem u2_ok {g : Nat → Nat → Value × List Prop} (h : ∀ v w, allP (g v w).2 → Pure Tryz.prog J0 f [.int .u64 (Int.ofNat v), .int .u64 (Int.ofNat w)] (g v w).1) : SpOk f (u2 g) := by
  intro args v l hs hl
  unfold u2 at hs
  split at hs
  · injection hs with hs; have e1 := congrArg Prod.fst hs; have e2 := congrArg Prod.snd hs; simp only at e1 e2; rw [← e1]; exact h _ _ (by rw [e2]; exact hl)
  · cases hs
theorem x1_ok {g : Nat → Value × List Prop} (h : ∀ v, allP (g v).2 → Pure Tryz.prog J0 f [.float .f64 v] (g v).1) : SpOk f (x1 g) := by
  intro args v l hs hl
  unfold x1 at hs
  split at hs
  · injection hs with hs; have e1 := congrArg Prod.fst hs; have e2 := congrArg Prod.snd hs; simp only at e1 e2; rw [← e1]; exact h _ (by rw [e2]; exact hl)
  · cases hs
theorem x2_ok {g : Nat → Nat → Value × List Prop} (h : ∀ v w, allP (g v w).2 → Pure Tryz.prog J0 f [.float .f64 v, .float .f64 w] (g v w).1) : SpOk f (x2 g) := by
  intro args v l hs hl
  unfold x2 at hs
  split at hs
  · injection hs with hs; have e1 := congrArg Prod.fst hs; have e2 := congrArg Prod.snd hs; simp only at e1 e2; rw [← e1]; exact h _ _ (by rw [e2]; exact hl)
  · cases hs
theorem s2_ok {g : List UInt8 → List UInt8 → Value × List Prop} (h : ∀ v w, allP (g v w).2 → Pure Tryz.prog J0 f [.string ⟨⟨v⟩⟩, .string ⟨⟨w⟩⟩] (g v w).1) : SpOk f (s2 g) := by
  intro args v l hs hl
  unfold s2 at hs
  split at hs
  · injection hs with hs; have e1 := congrArg Prod.fst hs; have e2 := congrArg Prod.snd hs; simp only at e1 e2; rw [← e1]; exact h _ _ (by rw [e2]; exact hl)
  · cases hs
end

abbrev inU (x : Nat) : Prop := x < 18446744073709551616

theorem cmpstring_pure (x y : List UInt8) : Pure Tryz.prog J0 204 [.string ⟨⟨x⟩⟩, .string ⟨⟨y⟩⟩] (vi (Lib.compareBytes x y)) :=
  ext_of Tryz.func204 (by kernel_rfl) (by kernel_rfl) (by kernel_rfl) (e := Extern.BytealgCompare.compare) (by kernel_rfl) rfl rfl (fun w => Lib.run_compareString ⟨⟨x⟩⟩ ⟨⟨y⟩⟩ w)

noncomputable def tabV1 : Tab :=
  tabAdd 136 (x1 fun x => (vi (keyI x), [inU x]))
  (tabAdd 138 (u1 fun x => (vi (keyI x), [inU x]))
  (tabAdd 134 (u1 fun x => (.int .u64 (Int.ofNat (oneX x)), [inU x]))
  (tabAdd 31 (u1 fun x => (.bool (nanB x), [inU x]))
  (tabAdd 204 (s2 fun x y => (vi (Lib.compareBytes x y), []))
  (tabAdd 85 (v1 fun v => (vi (faultI v), []))
  (tabAdd 88 (v1 fun v => (vi (faultI v), []))
  (tabAdd 86 (v2 fun v w => (vv (besideV v w), []))
  (tabAdd 145 (v2 fun v w => (vv (besideV v w), []))
  (tabAdd 39 (b1 fun b => (vv (truthV b), []))
  (tabAdd 40 (b1 fun b => (vv (truthV b), []))
  (tabAdd 41 (i1 fun f => (vv (faultV f), []))
  (tabAdd 42 (i1 fun f => (vv (faultV f), []))
  (tabAdd 76 (i2 fun x y => (vi (cmpI x y), []))
  (tabAdd 80 (i2 fun x y => (vi (cmpI x y), []))
  (tabAdd 79 (b1 fun b => (vi (b2i b), []))
  (tabAdd 83 (b1 fun b => (vi (b2i b), []))
  (tabAdd 84 (i1 fun op => (.agg ⟨[askF op]⟩, [])) tabN0)))))))))))))))))

theorem tabV1_ok : PcOk Tryz.prog J0 tabV1 :=
  tabAdd_ok (x1_ok fun x h => place_pure x h.1)
  (tabAdd_ok (u1_ok fun x h => key_pure x h.1)
  (tabAdd_ok (u1_ok fun x h => ref01one_pure x h.1)
  (tabAdd_ok (u1_ok fun x h => ref01nan_pure x h.1)
  (tabAdd_ok (s2_ok fun x y _ => cmpstring_pure x y)
  (tabAdd_ok (v1_ok fun v _ => fault_pure v)
  (tabAdd_ok (v1_ok fun v _ => rfault_pure v)
  (tabAdd_ok (v2_ok fun v w _ => beside_pure v w)
  (tabAdd_ok (v2_ok fun v w _ => plain_pure v w)
  (tabAdd_ok (b1_ok fun b _ => ofTruth_pure b)
  (tabAdd_ok (b1_ok fun b _ => rofTruth_pure b)
  (tabAdd_ok (i1_ok fun f _ => ofFault_pure f)
  (tabAdd_ok (i1_ok fun f _ => rofFault_pure f)
  (tabAdd_ok (i2_ok fun x y _ => compareI_pure x y)
  (tabAdd_ok (i2_ok fun x y _ => less_pure x y)
  (tabAdd_ok (b1_ok fun b _ => one_pure b)
  (tabAdd_ok (b1_ok fun b _ => rone_pure b)
  (tabAdd_ok (i1_ok fun op _ => comparisons_pure op) tabN0_ok)))))))))))))))))

noncomputable def bV1 : Base := ⟨Tryz.prog, J0, false, tabV1, mtab0, 200, xtN0⟩
theorem bV1_ok : BaseOk bV1 := ⟨progOk, tabV1_ok, mtab0_ok _ _, xtN0_ok⟩

end Go.Proofs.YtdapaocfidjihaaGreatDoor
