/-
  number.exponent of any text from any place on, as a contract.
-/
import Derived.Test.YtaopinmjgjpiiaaGreatDoorNbB
namespace Go.Proofs.YtaopinmjgjpiiaaGreatDoor
open Go Go.RowKit Ev

def specIndexO : List Value → Option (Value × List Prop)
  | [.string ⟨⟨s⟩⟩, .string ⟨⟨t⟩⟩] => some (.int .i64 (Lib.index s t), [s.length < 4294967281])
  | _ => none
theorem specIndexO_ok (args : List Value) (v : Value) (l : List Prop) (h : specIndexO args = some (v, l)) (hl : allP l) : Ev.Pure Tryz.prog J0 169 args v := by
  unfold specIndexO at h
  split at h
  · cases h; exact index_pure _ _ hl.1
  · cases h
noncomputable def bIx : Base := ⟨Tryz.prog, J0, false, tabAdd 169 specIndexO tabN0, mtab0, 2000, xtN0⟩
theorem bIx_ok : BaseOk bIx := ⟨progOk, tabAdd_ok specIndexO_ok tabN0_ok, mtab0_ok _ _, xtN0_ok⟩
/-- Does a text hold another? -/
def conB (L s : List UInt8) : Bool := decide (Int.ofNat 0 ≤ Lib.index L s)
theorem con_way (L s : List UInt8) : pureCall (bIx.cx 12) [] 200 143 [.string ⟨⟨L⟩⟩, .string ⟨⟨s⟩⟩] [] = some (.bool (conB L s), [L.length < 4294967281]) := by kernel_rfl
def specCon : List Value → Option (Value × List Prop)
  | [.string ⟨⟨L⟩⟩, .string ⟨⟨s⟩⟩] => some (.bool (conB L s), [L.length < 4294967281])
  | _ => none
theorem specCon_ok (args : List Value) (v : Value) (l : List Prop) (h : specCon args = some (v, l)) (hl : allP l) : Ev.Pure Tryz.prog J0 143 args v := by
  unfold specCon at h
  split at h
  · cases h; exact pureN bIx_ok (con_way _ _) hl
  · cases h
noncomputable def tabNb1 : Tab := tabAdd 143 specCon tabNb0
theorem tabNb1_ok : PcOk Tryz.prog J0 tabNb1 := tabAdd_ok specCon_ok tabNb0_ok
noncomputable def bNb1 : Base := ⟨Tryz.prog, J0, false, tabNb1, mtab0, 2000, xtN0⟩
theorem bNb1_ok : BaseOk bNb1 := ⟨progOk, tabNb1_ok, mtab0_ok _ _, xtN0_ok⟩
noncomputable abbrev XNb1 := bNb1.cx 12

noncomputable def cEx : Code := loopAt Tryz.prog 85 0
noncomputable def tEx (t : List UInt8) (a : Int) (g : Bool) (n f i : Int) : St := ⟨only 82 [(0, .string ⟨⟨t⟩⟩), (1, .int .i64 a), (8, .int .i64 i), (9, .bool g), (10, .int .i64 n), (11, .int .i64 f)], J0.tabs, 11, [], [], 0, none, [], 11⟩
def subT (t : List UInt8) (a : Int) : List UInt8 := List.drop a.toNat (List.take (IntKind.i64.wrap (a + 1)).toNat t)
def geB (t : List UInt8) (a : Int) : Bool := decide (a ≥ (t.length : Int))
def ltE (t : List UInt8) (k : Int) : Bool := decide (k < (t.length : Int))
def hdB (t L : List UInt8) (a : Int) : Bool := match geB t a with | true => true | false => !conB L (subT t a)
def hdP (t : List UInt8) (a : Int) : Prop := condP [(4, geB t a)] [(4, false)] → (0 ≤ IntKind.i64.wrap (a + 1) ∧ IntKind.i64.wrap (a + 1) ≤ (t.length : Int)) ∧ 0 ≤ a ∧ a ≤ IntKind.i64.wrap (a + 1)
def hdL (t L : List UInt8) (a : Int) : Prop := condP [(4, geB t a)] [(4, false)] → L.length < 4294967281
def sgB (t : List UInt8) (k : Int) : Bool := match ltE t k with | true => (match chI t k == 43 with | true => true | false => chI t k == 45) | false => false
def sgP1 (t : List UInt8) (k : Int) : Prop := condP [(9, chI t k == 43), (4, ltE t k)] [(9, false), (4, true)] → 0 ≤ k ∧ k.toNat < t.length
def sgP2 (t : List UInt8) (k : Int) : Prop := condP [(4, ltE t k)] [(4, true)] → 0 ≤ k ∧ k.toNat < t.length
def exB (t : List UInt8) (i : Int) : Bool := match ltE t i with | true => decide (worthV (chI t i) < 10) | false => false
def exP1 (t : List UInt8) (i : Int) : Prop := condP [(4, ltE t i)] [(4, true)] → 0 ≤ chI t i ∧ chI t i < 256
def nxW (n w : Int) : Int := if IntKind.i64.wrap (IntKind.i64.wrap (n * Int.ofNat 10) + w) < Int.ofNat 1073741824 then IntKind.i64.wrap (IntKind.i64.wrap (n * Int.ofNat 10) + w) else Int.ofNat 1073741824

section
variable (t L : List UInt8) (a : Nat) (g : Bool) (n f i : Int)
set_option maxRecDepth 100000 in
theorem ex_go (hl : allP [chP t i, inP t i, exB t i = true, exP1 t i, sgP2 t i]) : Step XNb1 cEx (tEx t a g n f i) .normal (tEx t a g (nxW n (worthV (chI t i))) f (IntKind.i64.wrap (i + 1))) :=
  step_of (Base.cx_ok bNb1_ok 12).1 progOk.mixed [] 200 [true] [] (by kernel_rfl) hl (by kernel_rfl) (by kernel_rfl)
set_option maxRecDepth 100000 in
theorem ex_end (hl : allP [exB t i = false, exP1 t i, sgP2 t i]) : Step XNb1 cEx (tEx t a g n f i) (.exit 0) (tEx t a g n f i) :=
  step_of (Base.cx_ok bNb1_ok 12).1 progOk.mixed [] 200 [false] [] (by kernel_rfl) hl (by kernel_rfl) (by kernel_rfl)
set_option maxRecDepth 100000 in
theorem er_head : pureCall XNb1 [] 200 85 [.string ⟨⟨t⟩⟩, .int .i64 a, .string ⟨⟨L⟩⟩] [true] = some (.tuple ⟨[.int .i64 0, .int .i64 a]⟩, [hdB t L a = true, hdL t L a, hdP t a]) := by kernel_rfl
/-- What is asked up to the sign, without one. -/
def eQ0 (t L : List UInt8) (a : Int) : List Prop := [sgB t (IntKind.i64.wrap (a + 1)) = false, sgP1 t (IntKind.i64.wrap (a + 1)), sgP2 t (IntKind.i64.wrap (a + 1)), hdB t L a = false, hdL t L a, hdP t a]
def eQ1 (t L : List UInt8) (a : Int) : List Prop := [inP t (IntKind.i64.wrap (a + 1)), sgB t (IntKind.i64.wrap (a + 1)) = true, sgP1 t (IntKind.i64.wrap (a + 1)), sgP2 t (IntKind.i64.wrap (a + 1)), hdB t L a = false, hdL t L a, hdP t a]
set_option maxRecDepth 100000 in
theorem er_0n : pureCall XNb1 [told (.exit 0) (fun _ => tEx t a g n f i)] 200 85 [.string ⟨⟨t⟩⟩, .int .i64 a, .string ⟨⟨L⟩⟩] [false, false, true] = some (.tuple ⟨[.int .i64 0, .int .i64 a]⟩, ((i == f) = true) :: LoopTo XNb1 cEx (startAt XNb1 200 85 [.string ⟨⟨t⟩⟩, .int .i64 a, .string ⟨⟨L⟩⟩] J0.tabs Tryz.prog.globals.size [false, false, true]) (.exit 0) (tEx t a g n f i) :: eQ0 t L a) := by kernel_rfl
set_option maxRecDepth 100000 in
theorem er_0m : pureCall XNb1 [told (.exit 0) (fun _ => tEx t a g n f i)] 200 85 [.string ⟨⟨t⟩⟩, .int .i64 a, .string ⟨⟨L⟩⟩] [false, false, false, true] = some (.tuple ⟨[.int .i64 (IntKind.i64.wrap (Int.ofNat 0 - n)), .int .i64 i]⟩, (g = true) :: ((i == f) = false) :: LoopTo XNb1 cEx (startAt XNb1 200 85 [.string ⟨⟨t⟩⟩, .int .i64 a, .string ⟨⟨L⟩⟩] J0.tabs Tryz.prog.globals.size [false, false, false, true]) (.exit 0) (tEx t a g n f i) :: eQ0 t L a) := by kernel_rfl
set_option maxRecDepth 100000 in
theorem er_0p : pureCall XNb1 [told (.exit 0) (fun _ => tEx t a g n f i)] 200 85 [.string ⟨⟨t⟩⟩, .int .i64 a, .string ⟨⟨L⟩⟩] [false, false, false, false] = some (.tuple ⟨[.int .i64 n, .int .i64 i]⟩, (g = false) :: ((i == f) = false) :: LoopTo XNb1 cEx (startAt XNb1 200 85 [.string ⟨⟨t⟩⟩, .int .i64 a, .string ⟨⟨L⟩⟩] J0.tabs Tryz.prog.globals.size [false, false, false, false]) (.exit 0) (tEx t a g n f i) :: eQ0 t L a) := by kernel_rfl
set_option maxRecDepth 100000 in
theorem er_1n : pureCall XNb1 [told (.exit 0) (fun _ => tEx t a g n f i)] 200 85 [.string ⟨⟨t⟩⟩, .int .i64 a, .string ⟨⟨L⟩⟩] [false, true, true] = some (.tuple ⟨[.int .i64 0, .int .i64 a]⟩, ((i == f) = true) :: LoopTo XNb1 cEx (startAt XNb1 200 85 [.string ⟨⟨t⟩⟩, .int .i64 a, .string ⟨⟨L⟩⟩] J0.tabs Tryz.prog.globals.size [false, true, true]) (.exit 0) (tEx t a g n f i) :: eQ1 t L a) := by kernel_rfl
set_option maxRecDepth 100000 in
theorem er_1m : pureCall XNb1 [told (.exit 0) (fun _ => tEx t a g n f i)] 200 85 [.string ⟨⟨t⟩⟩, .int .i64 a, .string ⟨⟨L⟩⟩] [false, true, false, true] = some (.tuple ⟨[.int .i64 (IntKind.i64.wrap (Int.ofNat 0 - n)), .int .i64 i]⟩, (g = true) :: ((i == f) = false) :: LoopTo XNb1 cEx (startAt XNb1 200 85 [.string ⟨⟨t⟩⟩, .int .i64 a, .string ⟨⟨L⟩⟩] J0.tabs Tryz.prog.globals.size [false, true, false, true]) (.exit 0) (tEx t a g n f i) :: eQ1 t L a) := by kernel_rfl
set_option maxRecDepth 100000 in
theorem er_1p : pureCall XNb1 [told (.exit 0) (fun _ => tEx t a g n f i)] 200 85 [.string ⟨⟨t⟩⟩, .int .i64 a, .string ⟨⟨L⟩⟩] [false, true, false, false] = some (.tuple ⟨[.int .i64 n, .int .i64 i]⟩, (g = false) :: ((i == f) = false) :: LoopTo XNb1 cEx (startAt XNb1 200 85 [.string ⟨⟨t⟩⟩, .int .i64 a, .string ⟨⟨L⟩⟩] J0.tabs Tryz.prog.globals.size [false, true, false, false]) (.exit 0) (tEx t a g n f i) :: eQ1 t L a) := by kernel_rfl
theorem ex_into0 (ds : List Bool) {x : AX} {s' : St} (h : LoopTo XNb1 cEx (tEx t a false 0 (IntKind.i64.wrap ((a : Int) + 1)) (IntKind.i64.wrap ((a : Int) + 1))) x s') : LoopTo XNb1 cEx (startAt XNb1 200 85 [.string ⟨⟨t⟩⟩, .int .i64 a, .string ⟨⟨L⟩⟩] J0.tabs Tryz.prog.globals.size (false :: false :: ds)) x s' :=
  loop_into' h [] (by kernel_rfl) (by kernel_rfl) (by kernel_rfl)
theorem ex_into1 (ds : List Bool) {x : AX} {s' : St} (h : LoopTo XNb1 cEx (tEx t a (chI t (IntKind.i64.wrap ((a : Int) + 1)) == 45) 0 (IntKind.i64.wrap (IntKind.i64.wrap ((a : Int) + 1) + 1)) (IntKind.i64.wrap (IntKind.i64.wrap ((a : Int) + 1) + 1))) x s') : LoopTo XNb1 cEx (startAt XNb1 200 85 [.string ⟨⟨t⟩⟩, .int .i64 a, .string ⟨⟨L⟩⟩] J0.tabs Tryz.prog.globals.size (false :: true :: ds)) x s' :=
  loop_into' h [] (by kernel_rfl) (by kernel_rfl) (by kernel_rfl)
end

end Go.Proofs.YtaopinmjgjpiiaaGreatDoor
