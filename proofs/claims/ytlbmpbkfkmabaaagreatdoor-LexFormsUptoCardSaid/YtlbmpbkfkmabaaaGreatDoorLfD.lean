/-
  strings.Replace of quotes by doubled ones, by the library's contract; lex.Quote of a text of ordinary length, as a contract. (The layings' numbers are those of one seat: print them anew over another.)
-/
import Derived.Test.YtlbmpbkfkmabaaaGreatDoorLfC
import Derived.Shelf.Strings.Replace
namespace Go.Proofs

def Tryz.lays154_ren : Go.Shelf.Ren := ⟨fun | 154 => 62 | 138 => 117 | 165 => 106 | 143 => 118 | 166 => 107 | 197 => 119 | 169 => 109 | 195 => 182 | 218 => 183 | 240 => 177 | 241 => 178 | 219 => 90 | 260 => 184 | 276 => 229 | 277 => 230 | 217 => 160 | 225 => 161 | 224 => 162 | 267 => 163 | 266 => 217 | 314 => 218 | n => n, fun | 9 => 9 | 3 => 3 | 4 => 4 | 72 => 146 | 0 => 0 | 76 => 50 | 105 => 156 | 21 => 21 | 5 => 5 | 70 => 144 | 20 => 20 | 37 => 58 | 75 => 49 | 127 => 215 | 164 => 250 | 46 => 141 | 119 => 258 | 139 => 261 | 138 => 260 | 146 => 213 | 51 => 212 | 80 => 124 | n => n, fun | 1 => 0 | 3 => 5 | 4 => 6 | n => n⟩
theorem Tryz.lays154 : Go.Proofs.Lays.n154 Tryz.prog Tryz.lays154_ren where
  mixed := by kernel_rfl
  f138 := Tryz.func117.trans (congrArg some (by kernel_rfl))
  f143 := Tryz.func118.trans (congrArg some (by kernel_rfl))
  f154 := Tryz.func62.trans (congrArg some (by kernel_rfl))
  f165 := Tryz.func106.trans (congrArg some (by kernel_rfl))
  f166 := Tryz.func107.trans (congrArg some (by kernel_rfl))
  f169 := Tryz.func109.trans (congrArg some (by kernel_rfl))
  f195 := Tryz.func182.trans (congrArg some (by kernel_rfl))
  f197 := Tryz.func119.trans (congrArg some (by kernel_rfl))
  f217 := Tryz.func160.trans (congrArg some (by kernel_rfl))
  f218 := Tryz.func183.trans (congrArg some (by kernel_rfl))
  f219 := Tryz.func90.trans (congrArg some (by kernel_rfl))
  f224 := Tryz.func162.trans (congrArg some (by kernel_rfl))
  f225 := Tryz.func161.trans (congrArg some (by kernel_rfl))
  f240 := Tryz.func177.trans (congrArg some (by kernel_rfl))
  f241 := Tryz.func178.trans (congrArg some (by kernel_rfl))
  f260 := Tryz.func184.trans (congrArg some (by kernel_rfl))
  f266 := Tryz.func217.trans (congrArg some (by kernel_rfl))
  f267 := Tryz.func163.trans (congrArg some (by kernel_rfl))
  f276 := Tryz.func229.trans (congrArg some (by kernel_rfl))
  f277 := Tryz.func230.trans (congrArg some (by kernel_rfl))
  f314 := Tryz.func218.trans (congrArg some (by kernel_rfl))
  t0 := Tryz.underlying0
  a0 := Tryz.isAgg0
  z0 := Tryz.sizeOf0
  v0 := Tryz.zeroValue0
  t3 := Tryz.underlying3
  a3 := Tryz.isAgg3
  z3 := Tryz.sizeOf3
  v3 := Tryz.zeroValue3
  t4 := Tryz.underlying4
  a4 := Tryz.isAgg4
  z4 := Tryz.sizeOf4
  v4 := Tryz.zeroValue4
  t5 := Tryz.underlying5
  a5 := Tryz.isAgg5
  z5 := Tryz.sizeOf5
  v5 := Tryz.zeroValue5
  t9 := Tryz.underlying9
  a9 := Tryz.isAgg9
  z9 := Tryz.sizeOf9
  v9 := Tryz.zeroValue9
  t20 := Tryz.underlying20
  a20 := Tryz.isAgg20
  z20 := Tryz.sizeOf20
  v20 := Tryz.zeroValue20
  t21 := Tryz.underlying21
  a21 := Tryz.isAgg21
  z21 := Tryz.sizeOf21
  v21 := Tryz.zeroValue21
  t37 := Tryz.underlying58
  a37 := Tryz.isAgg58
  z37 := Tryz.sizeOf58
  v37 := Tryz.zeroValue58
  t46 := Tryz.underlying141
  a46 := Tryz.isAgg141
  z46 := Tryz.sizeOf141
  v46 := Tryz.zeroValue141
  t51 := Tryz.underlying212
  a51 := Tryz.isAgg212
  z51 := Tryz.sizeOf212
  v51 := Tryz.zeroValue212
  t70 := Tryz.underlying144
  a70 := Tryz.isAgg144
  z70 := Tryz.sizeOf144
  v70 := Tryz.zeroValue144
  t72 := Tryz.underlying146
  a72 := Tryz.isAgg146
  z72 := Tryz.sizeOf146
  v72 := Tryz.zeroValue146
  t75 := Tryz.underlying49
  a75 := Tryz.isAgg49
  z75 := Tryz.sizeOf49
  v75 := Tryz.zeroValue49
  t76 := Tryz.underlying50
  a76 := Tryz.isAgg50
  z76 := Tryz.sizeOf50
  v76 := Tryz.zeroValue50
  t105 := Tryz.underlying156
  a105 := Tryz.isAgg156
  z105 := Tryz.sizeOf156
  v105 := Tryz.zeroValue156
  t119 := Tryz.underlying258
  a119 := Tryz.isAgg258
  z119 := Tryz.sizeOf258
  t127 := Tryz.underlying215
  a127 := Tryz.isAgg215
  z127 := Tryz.sizeOf215
  v127 := Tryz.zeroValue215
  t138 := Tryz.underlying260
  a138 := Tryz.isAgg260
  z138 := Tryz.sizeOf260
  v138 := Tryz.zeroValue260
  t139 := Tryz.underlying261
  a139 := Tryz.isAgg261
  z139 := Tryz.sizeOf261
  v139 := Tryz.zeroValue261
  t146 := Tryz.underlying213
  a146 := Tryz.isAgg213
  z146 := Tryz.sizeOf213
  v146 := Tryz.zeroValue213
  t164 := Tryz.underlying250
  a164 := Tryz.isAgg250
  z164 := Tryz.sizeOf250
  v164 := Tryz.zeroValue250
  g1 := by kernel_rfl
  g3 := by kernel_rfl
  g4 := by kernel_rfl

theorem Tryz.laysBX : Go.Proofs.Builder.Extra Tryz.prog Tryz.lays154_ren where
  sizeBuilder := by kernel_rfl
  liesBuilder := by kernel_rfl
  t5 := Tryz.underlying5
  a5 := Tryz.isAgg5
  z5 := Tryz.sizeOf5
  v5 := Tryz.zeroValue5
  infoByte := by kernel_rfl
  cellsByte := by kernel_rfl
  sizeByte := by kernel_rfl
  neB5 := by decide

namespace YtlbmpbkfkmabaaaGreatDoor
open Go Go.RowKit Ev

/-- Each quote twice. -/
def dq : List UInt8 → List UInt8
  | [] => []
  | c :: r => if c = 34 then 34 :: 34 :: dq r else c :: dq r
theorem dq_len : ∀ t : List UInt8, (dq t).length ≤ 2 * t.length
  | [] => Nat.le_refl _
  | c :: r => by
    have := dq_len r
    unfold dq
    split <;> simp only [List.length_cons] <;> omega
theorem dq_app : ∀ a b : List UInt8, dq (a ++ b) = dq a ++ dq b
  | [], _ => rfl
  | c :: r, b => by
    rw [List.cons_append, dq, dq, dq_app r b]
    split <;> rfl

theorem replace_dq : ∀ t : List UInt8, Lib.replaceK [34] [34, 34] (Lib.count t [34]) t = dq t
  | [] => by
    rw [Lib.count_one]
    rfl
  | c :: r => by
    by_cases hc : c = 34
    · subst hc
      rw [Lib.count_cons_eq, Nat.add_comm, Lib.replaceK_hit _ _ _ _ 0 (by simp [Lib.index])]
      show [34, 34] ++ Lib.replaceK [34] [34, 34] (Lib.count r [34]) r = _
      rw [replace_dq r, dq, if_pos rfl]
      rfl
    · have ih := replace_dq r
      rw [Lib.count_cons_ne _ _ _ hc]
      have hd : dq (c :: r) = c :: dq r := by
        rw [dq, if_neg hc]
      rw [hd]
      cases hk : Lib.count r [34] with
      | zero =>
        rw [hk] at ih
        show c :: r = c :: dq r
        rw [← ih]
        rfl
      | succ k =>
        obtain ⟨i, hi⟩ := Lib.index_of_count (s := r) (old := [34]) (by omega)
        have hci : Lib.index (c :: r) [34] = ((i + 1 : Nat) : Int) := by
          have hp : ([34] : List UInt8).isPrefixOf (c :: r) = false := by
            simp [List.isPrefixOf, show ¬(34 = c) from fun e => hc e.symm]
          have hne : (Lib.index r [34] == -1) = false := by
            rw [hi]
            exact beq_false_of_ne (by omega)
          rw [Lib.index, hp, hne]
          simp only [Bool.false_eq_true, if_false]
          rw [hi]
          omega
        rw [hk, Lib.replaceK_hit _ _ _ _ i hi] at ih
        rw [Lib.replaceK_hit _ _ _ _ (i + 1) hci, ← ih]
        rfl

def eqQ : List UInt8 → List UInt8 → Bool
  | [], [] => true
  | a :: r, b :: q => Nat.beq a.toNat b.toNat && eqQ r q
  | _, _ => false
theorem eqQ_sound : ∀ {a b : List UInt8}, eqQ a b = true → a = b
  | [], [], _ => rfl
  | a :: r, b :: q, h => by
    simp only [eqQ, Bool.and_eq_true, Nat.beq_eq] at h
    rw [UInt8.toNat_inj.1 h.1, eqQ_sound h.2]
  | [], _ :: _, h => by cases h
  | _ :: _, [], h => by cases h

def specRepl : List Value → Option (Value × List Prop)
  | [.string ⟨⟨t⟩⟩, .string ⟨⟨a⟩⟩, .string ⟨⟨b⟩⟩, .int .i64 n] => match eqQ a [34] && eqQ b [34, 34] with
    | true => some (.string ⟨⟨dq t⟩⟩, [t.length ≤ 1048576 ∧ n = -1])
    | false => none
  | _ => none
theorem specRepl_ok (args : List Value) (v : Value) (l : List Prop) (h : specRepl args = some (v, l)) (hl : allP l) : Ev.Pure Tryz.prog J0 62 args v := by
  unfold specRepl at h
  split at h
  case h_2 => cases h
  rename_i t a b n
  split at h
  case h_2 => cases h
  rename_i hab
  cases h
  rw [Bool.and_eq_true] at hab
  obtain ⟨rfl⟩ := eqQ_sound hab.1
  obtain ⟨rfl⟩ := eqQ_sound hab.2
  obtain ⟨ht, rfl⟩ := hl.1
  have hd := replace_dq t
  refine ⟨rfl, rfl, .inl ⟨enters_of Tryz.func62 (by kernel_rfl) (c := _) rfl, fun w hI => ?_⟩⟩
  obtain ⟨m, hm⟩ := hI.2.2.2.2.2.1
  have hne : (⟨⟨[34]⟩⟩ : ByteArray) ≠ ⟨⟨[34, 34]⟩⟩ := fun e => by cases e
  have hn0 : (-1 : Int) ≠ 0 := by decide
  have hs : (⟨⟨t⟩⟩ : ByteArray).size < 4294967281 := by show t.length < _; omega
  by_cases hc : Lib.countB ⟨⟨t⟩⟩ ⟨⟨[34]⟩⟩ = 0
  · refine (Any.strings_Replace_absent Tryz.lays154 ⟨⟨t⟩⟩ ⟨⟨[34]⟩⟩ ⟨⟨[34, 34]⟩⟩ (-1) m w hs hm (by decide) hne hn0 hc).mono fun e w' ⟨h1, h2⟩ => ⟨?_, h2 ▸ Below.refl _ _⟩
    have hc' : Lib.count t [34] = 0 := hc
    rw [hc'] at hd
    rw [h1, ← hd]
    rfl
  · have hle : Lib.count t [34] ≤ t.length := by rw [Lib.count_one]; exact List.count_le_length
    refine (Any.strings_Replace_some Tryz.lays154 Tryz.laysBX ⟨⟨t⟩⟩ ⟨⟨[34]⟩⟩ ⟨⟨[34, 34]⟩⟩ (-1) m w hs hm (by decide) hne hn0 hc (by
      show t.length + Lib.count t [34] * 2 ≤ _
      omega)).mono fun e w' ⟨h1, h2⟩ => ⟨?_, h2⟩
    have hnum : Lib.replaceNum t [34] (-1) = Lib.count t [34] := by unfold Lib.replaceNum; rw [if_pos (.inl (by decide))]
    refine h1.trans ?_
    rw [← hd, ← hnum]

noncomputable def tabLf2 : Tab := tabAdd 62 specRepl tabLf1
theorem tabLf2_ok : PcOk Tryz.prog J0 tabLf2 := tabAdd_ok specRepl_ok tabLf1_ok
noncomputable def bLf2 : Base := ⟨Tryz.prog, J0, false, tabLf2, mtab0, 2000, xtN0⟩
theorem bLf2_ok : BaseOk bLf2 := ⟨progOk, tabLf2_ok, mtab0_ok _ _, xtN0_ok⟩
noncomputable abbrev XLf2 := bLf2.cx 12

end YtlbmpbkfkmabaaaGreatDoor
end Go.Proofs
