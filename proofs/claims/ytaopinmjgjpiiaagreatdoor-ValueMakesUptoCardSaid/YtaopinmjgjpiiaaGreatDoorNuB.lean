/-
  strings.Index by the library's contract (numbers of seat r3); the tables of closed runs with it.
-/
import Derived.Test.YtaopinmjgjpiiaaGreatDoorNuA
import Derived.Shelf.Strings.Search3
namespace Go.Proofs

def Tryz.lays143_ren : Go.Shelf.Ren := ⟨fun | 143 => 169 | 219 => 233 | 217 => 235 | 225 => 270 | 224 => 271 | 267 => 272 | 266 => 273 | 314 => 292 | n => n, fun | 9 => 9 | 3 => 3 | 4 => 4 | 5 => 5 | 46 => 122 | 146 => 264 | 51 => 35 | n => n, fun | 1 => 4 | n => n⟩
theorem Tryz.lays143 : Go.Proofs.Lays.n143 Tryz.prog Tryz.lays143_ren where
  mixed := by kernel_rfl
  f143 := Tryz.func169.trans (congrArg some (by kernel_rfl))
  f217 := Tryz.func235.trans (congrArg some (by kernel_rfl))
  f219 := Tryz.func233.trans (congrArg some (by kernel_rfl))
  f224 := Tryz.func271.trans (congrArg some (by kernel_rfl))
  f225 := Tryz.func270.trans (congrArg some (by kernel_rfl))
  f266 := Tryz.func273.trans (congrArg some (by kernel_rfl))
  f267 := Tryz.func272.trans (congrArg some (by kernel_rfl))
  f314 := Tryz.func292.trans (congrArg some (by kernel_rfl))
  t3 := Tryz.underlying3
  a3 := Tryz.isAgg3
  z3 := Tryz.sizeOf3
  v3 := Tryz.zeroValue3
  t4 := Tryz.underlying4
  a4 := Tryz.isAgg4
  z4 := Tryz.sizeOf4
  v4 := Tryz.zeroValue4
  t5 := Tryz.underlying5
  a5 := Tryz.isAgg5
  z5 := Tryz.sizeOf5
  v5 := Tryz.zeroValue5
  t9 := Tryz.underlying9
  a9 := Tryz.isAgg9
  z9 := Tryz.sizeOf9
  v9 := Tryz.zeroValue9
  t46 := Tryz.underlying122
  a46 := Tryz.isAgg122
  z46 := Tryz.sizeOf122
  v46 := Tryz.zeroValue122
  t51 := Tryz.underlying35
  a51 := Tryz.isAgg35
  z51 := Tryz.sizeOf35
  v51 := Tryz.zeroValue35
  t146 := Tryz.underlying264
  a146 := Tryz.isAgg264
  z146 := Tryz.sizeOf264
  v146 := Tryz.zeroValue264
  g1 := by kernel_rfl

namespace YtaopinmjgjpiiaaGreatDoor
open Go Go.RowKit Ev

theorem index_pure (s t : List UInt8) (hs : s.length < 4294967281) : Pure Tryz.prog J0 169 [.string ⟨⟨s⟩⟩, .string ⟨⟨t⟩⟩] (.int .i64 (Lib.index s t)) := by
  refine ⟨rfl, rfl, .inl ⟨enters_of Tryz.func169 (by kernel_rfl) (c := _) rfl, fun w hI => ?_⟩⟩
  obtain ⟨m, hm⟩ := hI.2.2.2.2.2.1
  exact (Any.strings_Index Tryz.lays143 ⟨⟨s⟩⟩ ⟨⟨t⟩⟩ m w hs hm).mono fun e w' ⟨h1, h2⟩ => ⟨h1, h2 ▸ Below.refl _ _⟩

def specIndex : List Value → Option (Value × List Prop)
  | [.string ⟨⟨s⟩⟩, .string ⟨⟨t⟩⟩] => match Nat.blt s.length 4294967281 with
    | true => some (.int .i64 (Lib.index s t), [])
    | false => none
  | _ => none
theorem specIndex_ok (args : List Value) (v : Value) (l : List Prop) (h : specIndex args = some (v, l)) (_ : allP l) : Pure Tryz.prog J0 169 args v := by
  unfold specIndex at h
  split at h
  case h_2 => cases h
  split at h
  case h_2 => cases h
  rename_i hl
  cases h
  exact index_pure _ _ (by simpa [Nat.blt_eq] using hl)

noncomputable def tabN1 : Tab := tabAdd 169 specIndex tabN0
theorem tabN1_ok : PcOk Tryz.prog J0 tabN1 := tabAdd_ok specIndex_ok tabN0_ok
/-- For closed arguments. -/
noncomputable def bN1 : Base := ⟨Tryz.prog, J0, true, tabN1, mtab0, 2000, xtN0⟩
theorem bN1_ok : BaseOk bN1 := ⟨progOk, tabN1_ok, mtab0_ok _ _, xtN0_ok⟩

/-! What is known of a function at single arguments. -/

def atS : List (List Value × Value) → List Value → Option (Value × List Prop)
  | [], _ => none
  | (a, v) :: r, args => match eqL args a with
    | true => some (v, [])
    | false => atS r args

theorem atS_ok {f : FuncId} : ∀ {l : List (List Value × Value)}, (∀ p ∈ l, Pure Tryz.prog J0 f p.1 p.2) → ∀ (args : List Value) (v : Value) (o : List Prop), atS l args = some (v, o) → allP o → Pure Tryz.prog J0 f args v
  | [], _, args, v, o, h, _ => by cases h
  | (a, x) :: r, hl, args, v, o, h, ho => by
    unfold atS at h
    split at h
    · rename_i he
      cases h
      rw [eqL_spec _ _ he]
      exact hl _ List.mem_cons_self
    · exact atS_ok (fun p hp => hl p (List.mem_cons_of_mem _ hp)) args v o h ho

end YtaopinmjgjpiiaaGreatDoor
end Go.Proofs
