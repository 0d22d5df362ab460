/-
  FormulaKnown, a name that is none of the functions': what the two tables answer of it.
-/
import Derived.Test.YtlbmpbkfkmabaaaGreatDoorFoF
import Derived.Test.YtlbmpbkfkmabaaaGreatDoorFoC
namespace Go.Proofs.YtlbmpbkfkmabaaaGreatDoor
open Go Go.RowKit Ev

namespace Fk
def ws0 : List (List UInt8) := [[78, 65]]
def ws1 : List (List UInt8) := [[65, 66, 83], [73, 78, 84], [73, 83, 66, 76, 65, 78, 75], [73, 83, 69, 82, 82, 79, 82], [73, 83, 78, 85, 77, 66, 69, 82], [73, 83, 84, 69, 88, 84], [76, 69, 78], [78, 79, 84], [83, 73, 71, 78], [83, 73, 78, 71, 76, 69], [83, 81, 82, 84], [84, 82, 85, 78, 67], [86, 65, 76, 85, 69]]
def ws2 : List (List UInt8) := [[69, 88, 65, 67, 84], [73, 70, 69, 82, 82, 79, 82], [76, 65, 82, 71, 69], [76, 69, 70, 84], [77, 79, 68], [80, 69, 82, 67, 69, 78, 84, 73, 76, 69], [80, 79, 87, 69, 82], [82, 69, 80, 84], [82, 73, 71, 72, 84], [82, 79, 85, 78, 68], [82, 79, 85, 78, 68, 68, 79, 87, 78], [82, 79, 85, 78, 68, 69, 86, 69, 78], [82, 79, 85, 78, 68, 85, 80], [83, 77, 65, 76, 76], [83, 85, 77, 80, 82, 79, 68, 85, 67, 84], [84, 69, 88, 84]]
def ws3 : List (List UInt8) := [[73, 70], [82, 65, 78, 75]]
def ws4 : List (List UInt8) := [[67, 79, 85, 78, 84, 73, 70], [70, 85, 83, 69, 68], [77, 73, 68]]
def ws5 : List (List UInt8) := [[65, 78, 68], [65, 86, 69, 82, 65, 71, 69], [67, 79, 85, 78, 84], [67, 79, 85, 78, 84, 65], [74, 79, 73, 78], [77, 65, 88], [77, 69, 68, 73, 65, 78], [77, 73, 78], [77, 79, 68, 69], [79, 82], [83, 84, 68, 69, 86], [83, 84, 68, 69, 86, 80], [83, 85, 77], [83, 85, 77, 83, 81], [86, 65, 82], [86, 65, 82, 80]]
def ws6 : List (List UInt8) := [[67, 72, 79, 79, 83, 69]]
def names : List (List UInt8) := ws0 ++ ws1 ++ ws2 ++ ws3 ++ ws4 ++ ws5 ++ ws6
/-- No function has this name. -/
def Unk (s : List UInt8) : Prop := ∀ w ∈ names, (s == w) = false
/-- Words with blanks between. -/
def spread : List (List UInt8) → List UInt8
  | [] => []
  | [w] => w
  | w :: r => w ++ 32 :: spread r

theorem allP_mem : ∀ {l : List Prop}, (∀ p ∈ l, p) → allP l
  | [], _ => trivial
  | p :: _, h => ⟨h p (List.mem_cons_self ..), allP_mem fun q hq => h q (List.mem_cons_of_mem _ hq)⟩

def obT (s : List UInt8) : List Prop := (names.map fun w => (s == w) = false).reverse
theorem obT_all {s : List UInt8} (h : Unk s) : allP (obT s) := allP_mem fun p hp => by
  obtain ⟨w, hw, rfl⟩ := List.mem_map.1 (List.mem_reverse.1 hp)
  exact h w hw

/-! quadrilleref12.one goes over a list's bytes. -/
def bits1 : List (List UInt8) → List Bool
  | [] => [false]
  | w :: r => (w.flatMap fun _ => [true, false]) ++ [true, true, false] ++ bits1 r
def idxP (L : List UInt8) (i : Nat) : Prop := condP [(4, Int.ofNat i == Int.ofNat L.length)] [(4, false)] → 0 ≤ Int.ofNat i ∧ (Int.ofNat i).toNat < L.length
def cutP (L : List UInt8) (b i : Nat) : Prop := (Int.ofNat 0 ≤ Int.ofNat i ∧ Int.ofNat i ≤ Int.ofNat L.length) ∧ Int.ofNat 0 ≤ Int.ofNat b ∧ Int.ofNat b ≤ Int.ofNat i
def inner (L : List UInt8) : Nat → Nat → List Prop
  | 0, _ => []
  | k + 1, i => [(true = true), idxP L i, (false = false)] ++ inner L k (i + 1)
def ob1 (s L : List UInt8) : List (List UInt8) → Nat → List Prop
  | [], _ => [(false = false)]
  | w :: r, b => inner L w.length b ++ [(true = true), idxP L (b + w.length), (true = true), cutP L b (b + w.length), (match (w == s) with | true => !(s == ([] : List UInt8)) | false => false) = false] ++ ob1 s L r (b + w.length + 1)
def room : List (List UInt8) → Nat
  | [] => 0
  | w :: r => w.length + 1 + room r
theorem idxP_ok {L : List UInt8} {i : Nat} (h : i ≤ L.length) : idxP L i := by
  intro hc
  have hne : i ≠ L.length := fun e => by
    subst e
    simp [condP, kvP] at hc
  exact ⟨Int.natCast_nonneg _, by show i < _; omega⟩
theorem inner_all {L : List UInt8} : ∀ {k i : Nat}, i + k ≤ L.length → ∀ p ∈ inner L k i, p
  | 0, _, _, p, hp => by cases hp
  | k + 1, i, h, p, hp => by
    unfold inner at hp
    rcases List.mem_append.1 hp with hp | hp
    · simp only [List.mem_cons, List.not_mem_nil, or_false] at hp
      rcases hp with rfl | rfl | rfl
      · trivial
      · exact idxP_ok (by omega)
      · trivial
    · exact inner_all (by omega) p hp
theorem beq_flip {s w : List UInt8} (h : (s == w) = false) : (w == s) = false := by
  rw [Bool.eq_false_iff] at h ⊢
  exact fun e => h (by rw [eq_of_beq e]; exact BEq.refl _)
theorem ob1_all {s L : List UInt8} : ∀ {ws : List (List UInt8)} {b : Nat}, b + room ws ≤ L.length + 1 → (∀ w ∈ ws, (s == w) = false) → ∀ p ∈ ob1 s L ws b, p
  | [], _, _, _, p, hp => by
    cases List.mem_singleton.1 hp
    rfl
  | w :: r, b, hb, h, p, hp => by
    unfold ob1 at hp
    unfold room at hb
    rcases List.mem_append.1 hp with hp | hp
    · rcases List.mem_append.1 hp with hp | hp
      · exact inner_all (by omega) p hp
      · simp only [List.mem_cons, List.not_mem_nil, or_false] at hp
        rcases hp with rfl | rfl | rfl | rfl | rfl
        · trivial
        · exact idxP_ok (by omega)
        · trivial
        · exact ⟨⟨Int.natCast_nonneg _, Int.ofNat_le.2 (by omega)⟩, Int.natCast_nonneg _, Int.ofNat_le.2 (by omega)⟩
        · rw [beq_flip (h w (List.mem_cons_self ..))]
    · exact ob1_all (by omega) (fun w hw => h w (List.mem_cons_of_mem _ hw)) p hp
theorem ob1_rev {s L : List UInt8} {ws : List (List UInt8)} (hr : room ws ≤ L.length + 1) (h : ∀ w ∈ ws, (s == w) = false) : allP (ob1 s L ws 0).reverse :=
  allP_mem fun p hp => ob1_all (by omega) h p (List.mem_reverse.1 hp)

def eqB : List UInt8 → List UInt8 → Bool
  | [], [] => true
  | a :: r, b :: q => Nat.beq a.toNat b.toNat && eqB r q
  | _, _ => false
theorem eqB_sound : ∀ {a b : List UInt8}, eqB a b = true → a = b
  | [], [], _ => rfl
  | a :: r, b :: q, h => by
    simp only [eqB, Bool.and_eq_true, Nat.beq_eq] at h
    rw [UInt8.toNat_inj.1 h.1, eqB_sound h.2]
  | [], _ :: _, h => by cases h
  | _ :: _, [], h => by cases h
end Fk
open Fk

def specTakes : List Value → Option (Value × List Prop)
  | [.string ⟨⟨s⟩⟩] => some (.agg ⟨[.int .i64 (-1), .int .i64 (-1)]⟩, [Unk s])
  | _ => none
set_option maxRecDepth 100000 in
theorem takes_none (s : List UInt8) : pureCall (bN0.cx 30) [] 2000 39 [.string ⟨⟨s⟩⟩] (List.replicate 52 false) = some (.agg ⟨[.int .i64 (-1), .int .i64 (-1)]⟩, obT s) := by kernel_rfl
theorem specTakes_ok (args : List Value) (v : Value) (l : List Prop) (h : specTakes args = some (v, l)) (hl : allP l) : Ev.Pure Tryz.prog J0 39 args v := by
  unfold specTakes at h
  split at h
  · cases h
    exact pure_of bN0_ok 30 [] _ (takes_none _) (obT_all hl.1)
  · cases h

set_option maxRecDepth 100000 in
theorem one_1 (s : List UInt8) : pureCall (bKn.cx 30) [] 2000 40 [.string ⟨⟨s⟩⟩, .string ⟨⟨[65, 66, 83, 32, 73, 78, 84, 32, 73, 83, 66, 76, 65, 78, 75, 32, 73, 83, 69, 82, 82, 79, 82, 32, 73, 83, 78, 85, 77, 66, 69, 82, 32, 73, 83, 84, 69, 88, 84, 32, 76, 69, 78, 32, 78, 79, 84, 32, 83, 73, 71, 78, 32, 83, 73, 78, 71, 76, 69, 32, 83, 81, 82, 84, 32, 84, 82, 85, 78, 67, 32, 86, 65, 76, 85, 69]⟩⟩] (bits1 ws1) = some (.bool false, (ob1 s [65, 66, 83, 32, 73, 78, 84, 32, 73, 83, 66, 76, 65, 78, 75, 32, 73, 83, 69, 82, 82, 79, 82, 32, 73, 83, 78, 85, 77, 66, 69, 82, 32, 73, 83, 84, 69, 88, 84, 32, 76, 69, 78, 32, 78, 79, 84, 32, 83, 73, 71, 78, 32, 83, 73, 78, 71, 76, 69, 32, 83, 81, 82, 84, 32, 84, 82, 85, 78, 67, 32, 86, 65, 76, 85, 69] ws1 0).reverse) := by kernel_rfl
set_option maxRecDepth 100000 in
theorem one_2 (s : List UInt8) : pureCall (bKn.cx 30) [] 2000 40 [.string ⟨⟨s⟩⟩, .string ⟨⟨[69, 88, 65, 67, 84, 32, 73, 70, 69, 82, 82, 79, 82, 32, 76, 65, 82, 71, 69, 32, 76, 69, 70, 84, 32, 77, 79, 68, 32, 80, 69, 82, 67, 69, 78, 84, 73, 76, 69, 32, 80, 79, 87, 69, 82, 32, 82, 69, 80, 84, 32, 82, 73, 71, 72, 84, 32, 82, 79, 85, 78, 68, 32, 82, 79, 85, 78, 68, 68, 79, 87, 78, 32, 82, 79, 85, 78, 68, 69, 86, 69, 78, 32, 82, 79, 85, 78, 68, 85, 80, 32, 83, 77, 65, 76, 76, 32, 83, 85, 77, 80, 82, 79, 68, 85, 67, 84, 32, 84, 69, 88, 84]⟩⟩] (bits1 ws2) = some (.bool false, (ob1 s [69, 88, 65, 67, 84, 32, 73, 70, 69, 82, 82, 79, 82, 32, 76, 65, 82, 71, 69, 32, 76, 69, 70, 84, 32, 77, 79, 68, 32, 80, 69, 82, 67, 69, 78, 84, 73, 76, 69, 32, 80, 79, 87, 69, 82, 32, 82, 69, 80, 84, 32, 82, 73, 71, 72, 84, 32, 82, 79, 85, 78, 68, 32, 82, 79, 85, 78, 68, 68, 79, 87, 78, 32, 82, 79, 85, 78, 68, 69, 86, 69, 78, 32, 82, 79, 85, 78, 68, 85, 80, 32, 83, 77, 65, 76, 76, 32, 83, 85, 77, 80, 82, 79, 68, 85, 67, 84, 32, 84, 69, 88, 84] ws2 0).reverse) := by kernel_rfl
set_option maxRecDepth 100000 in
theorem one_3 (s : List UInt8) : pureCall (bKn.cx 30) [] 2000 40 [.string ⟨⟨s⟩⟩, .string ⟨⟨[73, 70, 32, 82, 65, 78, 75]⟩⟩] (bits1 ws3) = some (.bool false, (ob1 s [73, 70, 32, 82, 65, 78, 75] ws3 0).reverse) := by kernel_rfl
set_option maxRecDepth 100000 in
theorem one_4 (s : List UInt8) : pureCall (bKn.cx 30) [] 2000 40 [.string ⟨⟨s⟩⟩, .string ⟨⟨[67, 79, 85, 78, 84, 73, 70, 32, 70, 85, 83, 69, 68, 32, 77, 73, 68]⟩⟩] (bits1 ws4) = some (.bool false, (ob1 s [67, 79, 85, 78, 84, 73, 70, 32, 70, 85, 83, 69, 68, 32, 77, 73, 68] ws4 0).reverse) := by kernel_rfl
set_option maxRecDepth 100000 in
theorem one_5 (s : List UInt8) : pureCall (bKn.cx 30) [] 2000 40 [.string ⟨⟨s⟩⟩, .string ⟨⟨[65, 78, 68, 32, 65, 86, 69, 82, 65, 71, 69, 32, 67, 79, 85, 78, 84, 32, 67, 79, 85, 78, 84, 65, 32, 74, 79, 73, 78, 32, 77, 65, 88, 32, 77, 69, 68, 73, 65, 78, 32, 77, 73, 78, 32, 77, 79, 68, 69, 32, 79, 82, 32, 83, 84, 68, 69, 86, 32, 83, 84, 68, 69, 86, 80, 32, 83, 85, 77, 32, 83, 85, 77, 83, 81, 32, 86, 65, 82, 32, 86, 65, 82, 80]⟩⟩] (bits1 ws5) = some (.bool false, (ob1 s [65, 78, 68, 32, 65, 86, 69, 82, 65, 71, 69, 32, 67, 79, 85, 78, 84, 32, 67, 79, 85, 78, 84, 65, 32, 74, 79, 73, 78, 32, 77, 65, 88, 32, 77, 69, 68, 73, 65, 78, 32, 77, 73, 78, 32, 77, 79, 68, 69, 32, 79, 82, 32, 83, 84, 68, 69, 86, 32, 83, 84, 68, 69, 86, 80, 32, 83, 85, 77, 32, 83, 85, 77, 83, 81, 32, 86, 65, 82, 32, 86, 65, 82, 80] ws5 0).reverse) := by kernel_rfl
/-- Which of the lists is it? -/
def whichL (l : List UInt8) : Bool := eqB l (spread ws1) || eqB l (spread ws2) || eqB l (spread ws3) || eqB l (spread ws4) || eqB l (spread ws5)
def specOne1 : List Value → Option (Value × List Prop)
  | [.string ⟨⟨s⟩⟩, .string ⟨⟨l⟩⟩] => match whichL l with
    | true => some (.bool false, [Unk s])
    | false => none
  | _ => none
theorem unk_sub {s : List UInt8} (h : Unk s) {ws : List (List UInt8)} (hs : ∀ w ∈ ws, w ∈ names) : ∀ w ∈ ws, (s == w) = false := fun w hw => h w (hs w hw)
theorem specOne1_ok (args : List Value) (v : Value) (l : List Prop) (h : specOne1 args = some (v, l)) (hl : allP l) : Ev.Pure Tryz.prog J0 40 args v := by
  unfold specOne1 at h
  split at h
  case h_2 => cases h
  rename_i s l'
  split at h
  case h_2 => cases h
  rename_i hw
  cases h
  have hu : Unk s := hl.1
  unfold whichL at hw
  simp only [Bool.or_eq_true] at hw
  rcases hw with (((hw | hw) | hw) | hw) | hw
  · rw [eqB_sound hw]
    exact pure_of bKn_ok 30 [] _ (one_1 s) (ob1_rev (by decide) (unk_sub hu fun w hw => by simp only [names, List.mem_append]; simp [hw]))
  · rw [eqB_sound hw]
    exact pure_of bKn_ok 30 [] _ (one_2 s) (ob1_rev (by decide) (unk_sub hu fun w hw => by simp only [names, List.mem_append]; simp [hw]))
  · rw [eqB_sound hw]
    exact pure_of bKn_ok 30 [] _ (one_3 s) (ob1_rev (by decide) (unk_sub hu fun w hw => by simp only [names, List.mem_append]; simp [hw]))
  · rw [eqB_sound hw]
    exact pure_of bKn_ok 30 [] _ (one_4 s) (ob1_rev (by decide) (unk_sub hu fun w hw => by simp only [names, List.mem_append]; simp [hw]))
  · rw [eqB_sound hw]
    exact pure_of bKn_ok 30 [] _ (one_5 s) (ob1_rev (by decide) (unk_sub hu fun w hw => by simp only [names, List.mem_append]; simp [hw]))

noncomputable def tabFk1 : Tab := tabAdd 39 specTakes (tabAdd 40 specOne1 (tabAdd 17 (atS [([], .bool true)]) tabN0))
theorem tabFk1_ok : PcOk Tryz.prog J0 tabFk1 := tabAdd_ok specTakes_ok (tabAdd_ok specOne1_ok (tabAdd_ok (atS_ok (fun p hp => by simp only [List.mem_cons, List.not_mem_nil, or_false] at hp; subst hp; exact awake12)) tabN0_ok))
noncomputable def bFk1 : Base := ⟨Tryz.prog, J0, true, tabFk1, mtab0, 2000, xtN0⟩
theorem bFk1_ok : BaseOk bFk1 := ⟨progOk, tabFk1_ok, mtab0_ok _ _, xtN0_ok⟩

end Go.Proofs.YtlbmpbkfkmabaaaGreatDoor
