/-
  strings.Map by the library's contract; value's capitals. (The layings' numbers are those of one seat: print them anew over another.)
-/
import Derived.Test.YtaopinmjgjpiiaaGreatDoorVmC
import Derived.Test.YtaopinmjgjpiiaaGreatDoorVaI
import Derived.Shelf.Strings.MapGrows
namespace Go.Proofs

def Tryz.lays230_ren : Go.Shelf.Ren := ⟨fun | 230 => 119 | 197 => 170 | 118 => 185 | 165 => 132 | 166 => 133 | 168 => 186 | 270 => 187 | 167 => 188 | 169 => 135 | 260 => 234 | 240 => 203 | 241 => 204 | 242 => 247 | 276 => 256 | 277 => 257 | 278 => 280 | n => n, fun | 107 => 181 | 9 => 9 | 72 => 196 | 0 => 0 | 4 => 4 | 3 => 3 | 21 => 21 | 105 => 237 | 76 => 200 | 5 => 5 | 75 => 199 | 70 => 194 | 20 => 20 | 37 => 182 | 127 => 266 | 119 => 246 | 46 => 122 | 139 => 249 | 138 => 248 | 164 => 289 | 51 => 35 | 80 => 188 | n => n, fun | 3 => 1 | 4 => 2 | n => n⟩
theorem Tryz.lays230 : Go.Proofs.Lays.n230 Tryz.prog Tryz.lays230_ren where
  mixed := by kernel_rfl
  f118 := Tryz.func185.trans (congrArg some (by kernel_rfl))
  f165 := Tryz.func132.trans (congrArg some (by kernel_rfl))
  f166 := Tryz.func133.trans (congrArg some (by kernel_rfl))
  f167 := Tryz.func188.trans (congrArg some (by kernel_rfl))
  f168 := Tryz.func186.trans (congrArg some (by kernel_rfl))
  f169 := Tryz.func135.trans (congrArg some (by kernel_rfl))
  f197 := Tryz.func170.trans (congrArg some (by kernel_rfl))
  f230 := Tryz.func119.trans (congrArg some (by kernel_rfl))
  f240 := Tryz.func203.trans (congrArg some (by kernel_rfl))
  f241 := Tryz.func204.trans (congrArg some (by kernel_rfl))
  f242 := Tryz.func247.trans (congrArg some (by kernel_rfl))
  f260 := Tryz.func234.trans (congrArg some (by kernel_rfl))
  f270 := Tryz.func187.trans (congrArg some (by kernel_rfl))
  f276 := Tryz.func256.trans (congrArg some (by kernel_rfl))
  f277 := Tryz.func257.trans (congrArg some (by kernel_rfl))
  f278 := Tryz.func280.trans (congrArg some (by kernel_rfl))
  t0 := Tryz.underlying0
  a0 := Tryz.isAgg0
  z0 := Tryz.sizeOf0
  v0 := Tryz.zeroValue0
  t3 := Tryz.underlying3
  a3 := Tryz.isAgg3
  z3 := Tryz.sizeOf3
  v3 := Tryz.zeroValue3
  t4 := Tryz.underlying4
  a4 := Tryz.isAgg4
  z4 := Tryz.sizeOf4
  v4 := Tryz.zeroValue4
  t5 := Tryz.underlying5
  a5 := Tryz.isAgg5
  z5 := Tryz.sizeOf5
  v5 := Tryz.zeroValue5
  t9 := Tryz.underlying9
  a9 := Tryz.isAgg9
  z9 := Tryz.sizeOf9
  v9 := Tryz.zeroValue9
  t20 := Tryz.underlying20
  a20 := Tryz.isAgg20
  z20 := Tryz.sizeOf20
  v20 := Tryz.zeroValue20
  t21 := Tryz.underlying21
  a21 := Tryz.isAgg21
  z21 := Tryz.sizeOf21
  v21 := Tryz.zeroValue21
  t37 := Tryz.underlying182
  a37 := Tryz.isAgg182
  z37 := Tryz.sizeOf182
  v37 := Tryz.zeroValue182
  t46 := Tryz.underlying122
  a46 := Tryz.isAgg122
  z46 := Tryz.sizeOf122
  v46 := Tryz.zeroValue122
  t51 := Tryz.underlying35
  a51 := Tryz.isAgg35
  z51 := Tryz.sizeOf35
  v51 := Tryz.zeroValue35
  t70 := Tryz.underlying194
  a70 := Tryz.isAgg194
  z70 := Tryz.sizeOf194
  v70 := Tryz.zeroValue194
  t72 := Tryz.underlying196
  a72 := Tryz.isAgg196
  z72 := Tryz.sizeOf196
  v72 := Tryz.zeroValue196
  t75 := Tryz.underlying199
  a75 := Tryz.isAgg199
  z75 := Tryz.sizeOf199
  v75 := Tryz.zeroValue199
  t76 := Tryz.underlying200
  a76 := Tryz.isAgg200
  z76 := Tryz.sizeOf200
  v76 := Tryz.zeroValue200
  t105 := Tryz.underlying237
  a105 := Tryz.isAgg237
  z105 := Tryz.sizeOf237
  v105 := Tryz.zeroValue237
  t107 := Tryz.underlying181
  a107 := Tryz.isAgg181
  z107 := Tryz.sizeOf181
  v107 := Tryz.zeroValue181
  t119 := Tryz.underlying246
  a119 := Tryz.isAgg246
  z119 := Tryz.sizeOf246
  t127 := Tryz.underlying266
  a127 := Tryz.isAgg266
  z127 := Tryz.sizeOf266
  v127 := Tryz.zeroValue266
  t138 := Tryz.underlying248
  a138 := Tryz.isAgg248
  z138 := Tryz.sizeOf248
  v138 := Tryz.zeroValue248
  t139 := Tryz.underlying249
  a139 := Tryz.isAgg249
  z139 := Tryz.sizeOf249
  v139 := Tryz.zeroValue249
  t164 := Tryz.underlying289
  a164 := Tryz.isAgg289
  z164 := Tryz.sizeOf289
  v164 := Tryz.zeroValue289
  g3 := by kernel_rfl
  g4 := by kernel_rfl

theorem Tryz.laysBX : Go.Proofs.Builder.Extra Tryz.prog Tryz.lays230_ren where
  sizeBuilder := by kernel_rfl
  liesBuilder := by kernel_rfl
  t5 := Tryz.underlying5
  a5 := Tryz.isAgg5
  z5 := Tryz.sizeOf5
  v5 := Tryz.zeroValue5
  infoByte := by kernel_rfl
  cellsByte := by kernel_rfl
  sizeByte := by kernel_rfl
  neB5 := by decide

namespace YtaopinmjgjpiiaaGreatDoor
open Go Go.RowKit Ev

section
variable (c : Int)
theorem cx_1 : pureCall XVm [] 200 120 [.int .i32 c] [true] = some (.int .i32 (IntKind.i32.wrap (c - Int.ofNat 32)), [(match decide (c ≥ 97) with | true => decide (c ≤ 122) | false => false) = true]) := by kernel_rfl
theorem cx_2 : pureCall XVm [] 200 120 [.int .i32 c] [false] = some (.int .i32 c, [(match decide (c ≥ 97) with | true => decide (c ≤ 122) | false => false) = false]) := by kernel_rfl
end
theorem capR_pure {c : Int} (h0 : 0 ≤ c) (h1 : c ≤ 1114111) : Ev.Pure Tryz.prog J0 120 [.int .i32 c] (.int .i32 (capR c)) := by
  unfold capR
  by_cases h : 97 ≤ c ∧ c ≤ 122
  · rw [if_pos h]
    have := pureN bKn_ok (cx_1 c) ⟨by rw [decide_eq_true (show c ≥ 97 from h.1)]; exact decide_eq_true h.2, trivial⟩
    have e : IntKind.i32.wrap (c - Int.ofNat 32) = c - 32 := by
      simp [IntKind.wrap, IntKind.bits, IntKind.signed]
      omega
    rw [e] at this
    exact this
  · rw [if_neg h]
    refine pureN bKn_ok (cx_2 c) ⟨?_, trivial⟩
    by_cases hx : 97 ≤ c
    · rw [decide_eq_true (show c ≥ 97 from hx)]
      exact decide_eq_false (fun e => h ⟨hx, e⟩)
    · rw [decide_eq_false (show ¬c ≥ 97 from hx)]

def specMap : List Value → Option (Value × List Prop)
  | [.func (.func g) ⟨[]⟩ ⟨[]⟩, .string ⟨⟨t⟩⟩] => match Nat.beq g 120 with
    | true => some (.string ⟨⟨Lib.mapD capR t⟩⟩, [t.length < 35184372088832])
    | false => none
  | _ => none
theorem specMap_ok (args : List Value) (v : Value) (l : List Prop) (h : specMap args = some (v, l)) (hl : allP l) : Ev.Pure Tryz.prog J0 119 args v := by
  unfold specMap at h
  split at h
  case h_2 => cases h
  rename_i g t
  split at h
  case h_2 => cases h
  rename_i hg
  obtain rfl := Nat.eq_of_beq_eq_true hg
  cases h
  have hs : (⟨⟨t⟩⟩ : ByteArray).size < 35184372088832 := hl.1
  have he : Enters Tryz.prog 120 := enters_of Tryz.func120 (by kernel_rfl) (c := _) rfl
  refine ⟨rfl, rfl, .inl ⟨enters_of Tryz.func119 (by kernel_rfl) (c := _) rfl, fun w hI => ?_⟩⟩
  refine Any.strings_Map_grows Tryz.lays230 Tryz.laysBX 120 #[] he capR ⟨⟨t⟩⟩ w hs (fun W x hx hb => ?_) (fun x hx => ?_) hI.2.2.2.2.1
  · have hJ : J0.I W := J0.st w W (fun k hk => hb.block k (Nat.lt_of_lt_of_le hk hI.1)) hb.size hI
    exact (Pure.calls (capR_pure (c := (x : Int)) (by omega) (by omega)) he W hJ)
  · have := capR_range (x : Int) (by omega) (by omega)
    omega

noncomputable def tabVm0 : Tab := tabAdd 119 specMap tabN0
theorem tabVm0_ok : PcOk Tryz.prog J0 tabVm0 := tabAdd_ok specMap_ok tabN0_ok
noncomputable def bVm0 : Base := ⟨Tryz.prog, J0, false, tabVm0, mtab0, 2000, xtN0⟩
theorem bVm0_ok : BaseOk bVm0 := ⟨progOk, tabVm0_ok, mtab0_ok _ _, xtN0_ok⟩
theorem cap_way (t : List UInt8) : pureCall (bVm0.cx 12) [] 200 71 [.string ⟨⟨t⟩⟩] [] = some (.string ⟨⟨Lib.mapD capR t⟩⟩, [t.length < 35184372088832]) := by kernel_rfl
theorem capitals_pure {t : List UInt8} (hl : t.length < 35184372088832) : Ev.Pure Tryz.prog J0 71 [.string ⟨⟨t⟩⟩] (.string ⟨⟨Lib.mapD capR t⟩⟩) :=
  pureN bVm0_ok (cap_way t) ⟨hl, trivial⟩

end YtaopinmjgjpiiaaGreatDoor
end Go.Proofs
