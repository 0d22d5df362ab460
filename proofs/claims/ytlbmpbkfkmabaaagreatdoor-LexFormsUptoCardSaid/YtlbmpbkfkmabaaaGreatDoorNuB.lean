/-
  strings.Index by the library's contract (numbers of seat r3); the tables of closed runs with it.
-/
import Derived.Test.YtlbmpbkfkmabaaaGreatDoorNuA
import Derived.Shelf.Strings.Search3
namespace Go.Proofs

def Tryz.lays143_ren : Go.Shelf.Ren := ⟨fun | 143 => 118 | 219 => 90 | 217 => 160 | 225 => 161 | 224 => 162 | 267 => 163 | 266 => 217 | 314 => 218 | n => n, fun | 9 => 9 | 3 => 3 | 4 => 4 | 5 => 5 | 46 => 141 | 146 => 213 | 51 => 212 | n => n, fun | 1 => 0 | n => n⟩
theorem Tryz.lays143 : Go.Proofs.Lays.n143 Tryz.prog Tryz.lays143_ren where
  mixed := by kernel_rfl
  f143 := Tryz.func118.trans (congrArg some (by kernel_rfl))
  f217 := Tryz.func160.trans (congrArg some (by kernel_rfl))
  f219 := Tryz.func90.trans (congrArg some (by kernel_rfl))
  f224 := Tryz.func162.trans (congrArg some (by kernel_rfl))
  f225 := Tryz.func161.trans (congrArg some (by kernel_rfl))
  f266 := Tryz.func217.trans (congrArg some (by kernel_rfl))
  f267 := Tryz.func163.trans (congrArg some (by kernel_rfl))
  f314 := Tryz.func218.trans (congrArg some (by kernel_rfl))
  t3 := Tryz.underlying3
  a3 := Tryz.isAgg3
  z3 := Tryz.sizeOf3
  v3 := Tryz.zeroValue3
  t4 := Tryz.underlying4
  a4 := Tryz.isAgg4
  z4 := Tryz.sizeOf4
  v4 := Tryz.zeroValue4
  t5 := Tryz.underlying5
  a5 := Tryz.isAgg5
  z5 := Tryz.sizeOf5
  v5 := Tryz.zeroValue5
  t9 := Tryz.underlying9
  a9 := Tryz.isAgg9
  z9 := Tryz.sizeOf9
  v9 := Tryz.zeroValue9
  t46 := Tryz.underlying141
  a46 := Tryz.isAgg141
  z46 := Tryz.sizeOf141
  v46 := Tryz.zeroValue141
  t51 := Tryz.underlying212
  a51 := Tryz.isAgg212
  z51 := Tryz.sizeOf212
  v51 := Tryz.zeroValue212
  t146 := Tryz.underlying213
  a146 := Tryz.isAgg213
  z146 := Tryz.sizeOf213
  v146 := Tryz.zeroValue213
  g1 := by kernel_rfl

namespace YtlbmpbkfkmabaaaGreatDoor
open Go Go.RowKit Ev

theorem index_pure (s t : List UInt8) (hs : s.length < 4294967281) : Pure Tryz.prog J0 118 [.string ⟨⟨s⟩⟩, .string ⟨⟨t⟩⟩] (.int .i64 (Lib.index s t)) := by
  refine ⟨rfl, rfl, .inl ⟨enters_of Tryz.func118 (by kernel_rfl) (c := _) rfl, fun w hI => ?_⟩⟩
  obtain ⟨m, hm⟩ := hI.2.2.2.2.2.1
  exact (Any.strings_Index Tryz.lays143 ⟨⟨s⟩⟩ ⟨⟨t⟩⟩ m w hs hm).mono fun e w' ⟨h1, h2⟩ => ⟨h1, h2 ▸ Below.refl _ _⟩

def specIndex : List Value → Option (Value × List Prop)
  | [.string ⟨⟨s⟩⟩, .string ⟨⟨t⟩⟩] => match Nat.blt s.length 4294967281 with
    | true => some (.int .i64 (Lib.index s t), [])
    | false => none
  | _ => none
theorem specIndex_ok (args : List Value) (v : Value) (l : List Prop) (h : specIndex args = some (v, l)) (_ : allP l) : Pure Tryz.prog J0 118 args v := by
  unfold specIndex at h
  split at h
  case h_2 => cases h
  split at h
  case h_2 => cases h
  rename_i hl
  cases h
  exact index_pure _ _ (by simpa [Nat.blt_eq] using hl)

noncomputable def tabN1 : Tab := tabAdd 118 specIndex tabN0
theorem tabN1_ok : PcOk Tryz.prog J0 tabN1 := tabAdd_ok specIndex_ok tabN0_ok
/-- For closed arguments. -/
noncomputable def bN1 : Base := ⟨Tryz.prog, J0, true, tabN1, mtab0, 2000, xtN0⟩
theorem bN1_ok : BaseOk bN1 := ⟨progOk, tabN1_ok, mtab0_ok _ _, xtN0_ok⟩

/-! What is known of a function at single arguments. -/

def atS : List (List Value × Value) → List Value → Option (Value × List Prop)
  | [], _ => none
  | (a, v) :: r, args => match eqL args a with
    | true => some (v, [])
    | false => atS r args

theorem atS_ok {f : FuncId} : ∀ {l : List (List Value × Value)}, (∀ p ∈ l, Pure Tryz.prog J0 f p.1 p.2) → ∀ (args : List Value) (v : Value) (o : List Prop), atS l args = some (v, o) → allP o → Pure Tryz.prog J0 f args v
  | [], _, args, v, o, h, _ => by cases h
  | (a, x) :: r, hl, args, v, o, h, ho => by
    unfold atS at h
    split at h
    · rename_i he
      cases h
      rw [eqL_spec _ _ he]
      exact hl _ List.mem_cons_self
    · exact atS_ok (fun p hp => hl p (List.mem_cons_of_mem _ hp)) args v o h ho

end YtlbmpbkfkmabaaaGreatDoor
end Go.Proofs
