/-
  The library contract of utf8.ValidString, laid at this program: what is asked of the program, by the kernel. (Numbers of seat r3.)
-/
import Derived.Test.YtdapaocfidjihaaGreatDoorNuA
import Derived.Shelf.Unicode.ValidAny
namespace Go.Proofs

def Tryz.lays196_ren : Go.Shelf.Ren := ⟨fun | 196 => 73 | 259 => 133 | n => n, fun | 9 => 9 | 4 => 4 | 3 => 3 | 5 => 5 | 12 => 12 | 119 => 179 | 0 => 0 | 46 => 135 | 139 => 182 | 138 => 181 | 53 => 37 | n => n, fun | 3 => 1 | 4 => 2 | n => n⟩
theorem Tryz.lays196 : Go.Proofs.Lays.n196 Tryz.prog Tryz.lays196_ren where
  mixed := by kernel_rfl
  f196 := Tryz.func73.trans (congrArg some (by kernel_rfl))
  f259 := Tryz.func133.trans (congrArg some (by kernel_rfl))
  t0 := Tryz.underlying0
  a0 := Tryz.isAgg0
  z0 := Tryz.sizeOf0
  v0 := Tryz.zeroValue0
  t3 := Tryz.underlying3
  a3 := Tryz.isAgg3
  z3 := Tryz.sizeOf3
  v3 := Tryz.zeroValue3
  t4 := Tryz.underlying4
  a4 := Tryz.isAgg4
  z4 := Tryz.sizeOf4
  v4 := Tryz.zeroValue4
  t5 := Tryz.underlying5
  a5 := Tryz.isAgg5
  z5 := Tryz.sizeOf5
  v5 := Tryz.zeroValue5
  t9 := Tryz.underlying9
  a9 := Tryz.isAgg9
  z9 := Tryz.sizeOf9
  v9 := Tryz.zeroValue9
  t12 := Tryz.underlying12
  a12 := Tryz.isAgg12
  z12 := Tryz.sizeOf12
  v12 := Tryz.zeroValue12
  t46 := Tryz.underlying135
  a46 := Tryz.isAgg135
  z46 := Tryz.sizeOf135
  v46 := Tryz.zeroValue135
  t53 := Tryz.underlying37
  a53 := Tryz.isAgg37
  z53 := Tryz.sizeOf37
  v53 := Tryz.zeroValue37
  t119 := Tryz.underlying179
  a119 := Tryz.isAgg179
  z119 := Tryz.sizeOf179
  t138 := Tryz.underlying181
  a138 := Tryz.isAgg181
  z138 := Tryz.sizeOf181
  v138 := Tryz.zeroValue181
  t139 := Tryz.underlying182
  a139 := Tryz.isAgg182
  z139 := Tryz.sizeOf182
  v139 := Tryz.zeroValue182
  g3 := by kernel_rfl
  g4 := by kernel_rfl

namespace YtdapaocfidjihaaGreatDoor
open Go Go.RowKit Ev

theorem validString_pure (s : List UInt8) (hs : s.length ≤ 9223372036854775807) : Pure Tryz.prog J0 73 [.string ⟨⟨s⟩⟩] (.bool (Lib.validD s)) := by
  refine ⟨rfl, rfl, .inl ⟨enters_of Tryz.func73 (by kernel_rfl) (c := _) rfl, fun w hI => ?_⟩⟩
  exact Any.utf8_ValidString Tryz.lays196 ⟨⟨s⟩⟩ w hs hI.2.2.2.2.1

end YtdapaocfidjihaaGreatDoor
end Go.Proofs
