/-
  The reference's UTF8 (layer 12): the rounds of its loop.
-/
import Derived.Test.YtaopinmjgjpiiaaGreatDoorFoC
import Derived.Test.YtaopinmjgjpiiaaGreatDoorVaS
namespace Go.Proofs.YtaopinmjgjpiiaaGreatDoor
open Go Go.RowKit Ev VaS

abbrev vi (n : Int) : Value := .int .i64 n
noncomputable def XV8 : Cx := bKn.cx 10
noncomputable def cU8 : Code := loopAt Tryz.prog 118 0
noncomputable def SU8 (s : List UInt8) : St := startAt XV8 200 118 [.string ⟨⟨s⟩⟩] J0.tabs Tryz.prog.globals.size []
def TU8 (S : St) (s : List UInt8) (i : Int) : St :=
  match S with
  | ⟨tm, hp, n, _, _, _, rd, mq, b⟩ => ⟨only tm.length [(0, .string ⟨⟨s⟩⟩), (3, vi i)], hp, n, [], [], 0, rd, mq, b⟩
def RU8 (S : St) : St :=
  match S with
  | ⟨tm, hp, n, _, _, _, rd, mq, b⟩ => ⟨only tm.length [(2, .bool false)], hp, n, [], [], 0, rd, mq, b⟩

abbrev w6 (n : Int) : Int := IntKind.i64.wrap n
def byU (s : List UInt8) (p : Int) : Int := (bytesAt ⟨⟨s⟩⟩ p.toNat : Int)
abbrev inS (s : List UInt8) (p : Int) : Prop := 0 ≤ p ∧ p.toNat < s.length
def badU (s : List UInt8) (p : Int) : Bool := match (match decide (p ≥ (s.length : Int)) with | true => true | false => decide (byU s p < 128)) with | true => true | false => decide (byU s p > 191)
def obU (s : List UInt8) (p : Int) (r : List Prop) : List Prop :=
  (condP [(14, match decide (p ≥ (s.length : Int)) with | true => true | false => decide (byU s p < 128)), (6, decide (p ≥ (s.length : Int)))] [(14, false)] → inS s p) ::
  (condP [(6, decide (p ≥ (s.length : Int)))] [(6, false)] → inS s p) :: (true = true) :: r
def c0U (s : List UInt8) (i : Int) : Int := w6 (byU s i)
def leadU (s : List UInt8) (i lo hi : Int) : Bool := match decide (c0U s i ≥ lo) with | true => decide (c0U s i < hi) | false => false
def rngU (c least : Int) : Bool := match match decide (c < least) with | true => true | false => decide (c > 1114111) with | true => true | false => match decide (c ≥ 55296) with | true => decide (c < 57344) | false => false
def nxU (s : List UInt8) (c p : Int) : Int := w6 (w6 (w6 (c * 64) + w6 (byU s p)) - 128)
abbrev p1U (i : Int) : Int := w6 (i + 1)
abbrev p2U (i : Int) : Int := w6 (i + w6 (1 + 1))
abbrev p3U (i : Int) : Int := w6 (i + w6 (w6 (1 + 1) + 1))
abbrev l0U (s : List UInt8) (i : Int) : List Prop := [inS s i, decide (i < (s.length : Int)) = true]
abbrev l2U (s : List UInt8) (i : Int) : List Prop := (leadU s i 194 224 = true) :: (decide (c0U s i < 128) = false) :: l0U s i
abbrev l3U (s : List UInt8) (i : Int) : List Prop := (leadU s i 224 240 = true) :: (leadU s i 194 224 = false) :: (decide (c0U s i < 128) = false) :: l0U s i
abbrev l4U (s : List UInt8) (i : Int) : List Prop := (leadU s i 240 245 = true) :: (leadU s i 224 240 = false) :: (leadU s i 194 224 = false) :: (decide (c0U s i < 128) = false) :: l0U s i
/-- A byte behind is all right. -/
def okU (s : List UInt8) (p : Int) (r : List Prop) : List Prop := inS s p :: (badU s p = false) :: obU s p r
def noU (s : List UInt8) (p : Int) (r : List Prop) : List Prop := (badU s p = true) :: obU s p r
def c2U (s : List UInt8) (i : Int) : Int := nxU s (w6 (c0U s i - 192)) (p1U i)
def c3U (s : List UInt8) (i : Int) : Int := nxU s (nxU s (w6 (c0U s i - 224)) (p1U i)) (p2U i)
def c4U (s : List UInt8) (i : Int) : Int := nxU s (nxU s (nxU s (w6 (c0U s i - 240)) (p1U i)) (p2U i)) (p3U i)

section
variable (s : List UInt8) (i : Int)
abbrev StepU (s : List UInt8) (i : Int) (x : AX) (t : St) : Prop := Step XV8 cU8 (TU8 (SU8 s) s i) x t

set_option maxRecDepth 100000 in
theorem u_exit (h : decide (i < (s.length : Int)) = false) : StepU s i (.exit 0) (TU8 (SU8 s) s i) :=
  step_of (Base.cx_ok bKn_ok 10).1 progOk.mixed [] 200 [false] [] (l := [decide (i < (s.length : Int)) = false]) (by kernel_rfl) ⟨h, trivial⟩ (by kernel_rfl) (by kernel_rfl)

set_option maxRecDepth 100000 in
theorem u_asc (h : allP ((rngU (c0U s i) 0 = false) :: (false = false) :: (decide (c0U s i < 128) = true) :: l0U s i)) : StepU s i .normal (TU8 (SU8 s) s (w6 (w6 (i + 1) + 0))) :=
  step_of (Base.cx_ok bKn_ok 10).1 progOk.mixed [] 200 [true, true, false, false] [] (l := (rngU (c0U s i) 0 = false) :: (false = false) :: (decide (c0U s i < 128) = true) :: l0U s i) (by kernel_rfl) h (by kernel_rfl) (by kernel_rfl)

set_option maxRecDepth 100000 in
theorem u_none (h : allP ((leadU s i 240 245 = false) :: (leadU s i 224 240 = false) :: (leadU s i 194 224 = false) :: (decide (c0U s i < 128) = false) :: l0U s i)) : StepU s i .ret (RU8 (SU8 s)) :=
  step_of (Base.cx_ok bKn_ok 10).1 progOk.mixed [] 200 [true, false, false, false, false] [] (l := (leadU s i 240 245 = false) :: (leadU s i 224 240 = false) :: (leadU s i 194 224 = false) :: (decide (c0U s i < 128) = false) :: l0U s i) (by kernel_rfl) h (by kernel_rfl) (by kernel_rfl)

set_option maxRecDepth 100000 in
theorem u_21 (h : allP (noU s (p1U i) (l2U s i))) : StepU s i .ret (RU8 (SU8 s)) :=
  step_of (Base.cx_ok bKn_ok 10).1 progOk.mixed [] 200 [true, false, true, true, true] [] (l := noU s (p1U i) (l2U s i)) (by kernel_rfl) h (by kernel_rfl) (by kernel_rfl)

set_option maxRecDepth 100000 in
theorem u_2ok (h : allP ((rngU (c2U s i) 128 = false) :: (false = false) :: okU s (p1U i) (l2U s i))) : StepU s i .normal (TU8 (SU8 s) s (w6 (w6 (i + 1) + 1))) :=
  step_of (Base.cx_ok bKn_ok 10).1 progOk.mixed [] 200 [true, false, true, true, false, false, false] [] (l := (rngU (c2U s i) 128 = false) :: (false = false) :: okU s (p1U i) (l2U s i)) (by kernel_rfl) h (by kernel_rfl) (by kernel_rfl)

set_option maxRecDepth 100000 in
theorem u_2far (h : allP ((rngU (c2U s i) 128 = true) :: (false = false) :: okU s (p1U i) (l2U s i))) : StepU s i .ret (RU8 (SU8 s)) :=
  step_of (Base.cx_ok bKn_ok 10).1 progOk.mixed [] 200 [true, false, true, true, false, false, true] [] (l := (rngU (c2U s i) 128 = true) :: (false = false) :: okU s (p1U i) (l2U s i)) (by kernel_rfl) h (by kernel_rfl) (by kernel_rfl)

set_option maxRecDepth 100000 in
theorem u_31 (h : allP (noU s (p1U i) (l3U s i))) : StepU s i .ret (RU8 (SU8 s)) :=
  step_of (Base.cx_ok bKn_ok 10).1 progOk.mixed [] 200 [true, false, false, true, true, true] [] (l := noU s (p1U i) (l3U s i)) (by kernel_rfl) h (by kernel_rfl) (by kernel_rfl)

set_option maxRecDepth 100000 in
theorem u_32 (h : allP (noU s (p2U i) (okU s (p1U i) (l3U s i)))) : StepU s i .ret (RU8 (SU8 s)) :=
  step_of (Base.cx_ok bKn_ok 10).1 progOk.mixed [] 200 [true, false, false, true, true, false, true, true] [] (l := noU s (p2U i) (okU s (p1U i) (l3U s i))) (by kernel_rfl) h (by kernel_rfl) (by kernel_rfl)

set_option maxRecDepth 100000 in
theorem u_3ok (h : allP ((rngU (c3U s i) 2048 = false) :: (false = false) :: okU s (p2U i) (okU s (p1U i) (l3U s i)))) : StepU s i .normal (TU8 (SU8 s) s (w6 (w6 (i + 1) + 2))) :=
  step_of (Base.cx_ok bKn_ok 10).1 progOk.mixed [] 200 [true, false, false, true, true, false, true, false, false, false] [] (l := (rngU (c3U s i) 2048 = false) :: (false = false) :: okU s (p2U i) (okU s (p1U i) (l3U s i))) (by kernel_rfl) h (by kernel_rfl) (by kernel_rfl)

set_option maxRecDepth 100000 in
theorem u_3far (h : allP ((rngU (c3U s i) 2048 = true) :: (false = false) :: okU s (p2U i) (okU s (p1U i) (l3U s i)))) : StepU s i .ret (RU8 (SU8 s)) :=
  step_of (Base.cx_ok bKn_ok 10).1 progOk.mixed [] 200 [true, false, false, true, true, false, true, false, false, true] [] (l := (rngU (c3U s i) 2048 = true) :: (false = false) :: okU s (p2U i) (okU s (p1U i) (l3U s i))) (by kernel_rfl) h (by kernel_rfl) (by kernel_rfl)

set_option maxRecDepth 100000 in
theorem u_41 (h : allP (noU s (p1U i) (l4U s i))) : StepU s i .ret (RU8 (SU8 s)) :=
  step_of (Base.cx_ok bKn_ok 10).1 progOk.mixed [] 200 [true, false, false, false, true, true, true] [] (l := noU s (p1U i) (l4U s i)) (by kernel_rfl) h (by kernel_rfl) (by kernel_rfl)

set_option maxRecDepth 100000 in
theorem u_42 (h : allP (noU s (p2U i) (okU s (p1U i) (l4U s i)))) : StepU s i .ret (RU8 (SU8 s)) :=
  step_of (Base.cx_ok bKn_ok 10).1 progOk.mixed [] 200 [true, false, false, false, true, true, false, true, true] [] (l := noU s (p2U i) (okU s (p1U i) (l4U s i))) (by kernel_rfl) h (by kernel_rfl) (by kernel_rfl)

set_option maxRecDepth 100000 in
theorem u_43 (h : allP (noU s (p3U i) (okU s (p2U i) (okU s (p1U i) (l4U s i))))) : StepU s i .ret (RU8 (SU8 s)) :=
  step_of (Base.cx_ok bKn_ok 10).1 progOk.mixed [] 200 [true, false, false, false, true, true, false, true, false, true, true] [] (l := noU s (p3U i) (okU s (p2U i) (okU s (p1U i) (l4U s i)))) (by kernel_rfl) h (by kernel_rfl) (by kernel_rfl)

set_option maxRecDepth 100000 in
theorem u_4ok (h : allP ((rngU (c4U s i) 65536 = false) :: (false = false) :: okU s (p3U i) (okU s (p2U i) (okU s (p1U i) (l4U s i))))) : StepU s i .normal (TU8 (SU8 s) s (w6 (w6 (i + 1) + 3))) :=
  step_of (Base.cx_ok bKn_ok 10).1 progOk.mixed [] 200 [true, false, false, false, true, true, false, true, false, true, false, false, false] [] (l := (rngU (c4U s i) 65536 = false) :: (false = false) :: okU s (p3U i) (okU s (p2U i) (okU s (p1U i) (l4U s i)))) (by kernel_rfl) h (by kernel_rfl) (by kernel_rfl)

set_option maxRecDepth 100000 in
theorem u_4far (h : allP ((rngU (c4U s i) 65536 = true) :: (false = false) :: okU s (p3U i) (okU s (p2U i) (okU s (p1U i) (l4U s i))))) : StepU s i .ret (RU8 (SU8 s)) :=
  step_of (Base.cx_ok bKn_ok 10).1 progOk.mixed [] 200 [true, false, false, false, true, true, false, true, false, true, false, false, true] [] (l := (rngU (c4U s i) 65536 = true) :: (false = false) :: okU s (p3U i) (okU s (p2U i) (okU s (p1U i) (l4U s i)))) (by kernel_rfl) h (by kernel_rfl) (by kernel_rfl)
end

end Go.Proofs.YtaopinmjgjpiiaaGreatDoor
