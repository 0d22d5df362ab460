/-
  strconv.Itoa and strconv.Atoi by the library's contracts (numbers of seat r5).
-/
import Derived.Test.YtlbmpbkfkmabaaaGreatDoorNuB
import Derived.Test.YtlbmpbkfkmabaaaGreatDoorEvM
import Derived.Shelf.Strconv.AtoiAll
import Derived.Shelf.Strconv.Itoa3
import Derived.Test.YtlbmpbkfkmabaaaGreatDoorShA
import Derived.Lib.AppendIntMem
namespace Go.Proofs

def Tryz.laysC172_ren : Go.Shelf.Ren := ⟨fun | 172 => 28 | 244 => 54 | 245 => 55 | 247 => 92 | 279 => 93 | 280 => 94 | 281 => 95 | 282 => 96 | 287 => 164 | 316 => 165 | 171 => 23 | 205 => 166 | 321 => 219 | 322 => 220 | 243 => 51 | 246 => 89 | 283 => 156 | 284 => 157 | 285 => 158 | 286 => 159 | 129 => 210 | 317 => 213 | 318 => 214 | 319 => 215 | 320 => 216 | 337 => 251 | 338 => 252 | n => n, fun | 9 => 9 | 3 => 3 | 75 => 49 | 76 => 50 | 4 => 4 | 5 => 5 | 167 => 128 | 37 => 58 | 0 => 0 | 85 => 129 | 2 => 2 | 168 => 131 | 53 => 134 | 175 => 202 | 46 => 141 | 210 => 205 | 127 => 215 | 145 => 241 | 143 => 239 | 21 => 21 | 171 => 196 | 173 => 198 | 212 => 233 | 51 => 212 | 20 => 20 | 213 => 234 | 232 => 285 | 233 => 286 | 80 => 124 | n => n, fun | 15 => 1 | 16 => 2 | 17 => 4 | 18 => 9 | 19 => 10 | n => n⟩
theorem Tryz.laysC172 : Go.Proofs.LaysC.n172 Tryz.prog Tryz.laysC172_ren where
  mixed := by kernel_rfl
  f129 := Tryz.func210.trans (congrArg some (by kernel_rfl))
  f171 := Tryz.func23.trans (congrArg some (by kernel_rfl))
  f172 := Tryz.func28.trans (congrArg some (by kernel_rfl))
  f205 := Tryz.func166.trans (congrArg some (by kernel_rfl))
  f243 := Tryz.func51.trans (congrArg some (by kernel_rfl))
  f244 := Tryz.func54.trans (congrArg some (by kernel_rfl))
  f245 := Tryz.func55.trans (congrArg some (by kernel_rfl))
  f246 := Tryz.func89.trans (congrArg some (by kernel_rfl))
  f247 := Tryz.func92.trans (congrArg some (by kernel_rfl))
  f279 := Tryz.func93.trans (congrArg some (by kernel_rfl))
  f280 := Tryz.func94.trans (congrArg some (by kernel_rfl))
  f281 := Tryz.func95.trans (congrArg some (by kernel_rfl))
  f282 := Tryz.func96.trans (congrArg some (by kernel_rfl))
  f283 := Tryz.func156.trans (congrArg some (by kernel_rfl))
  f284 := Tryz.func157.trans (congrArg some (by kernel_rfl))
  f285 := Tryz.func158.trans (congrArg some (by kernel_rfl))
  f286 := Tryz.func159.trans (congrArg some (by kernel_rfl))
  f287 := Tryz.func164.trans (congrArg some (by kernel_rfl))
  f316 := Tryz.func165.trans (congrArg some (by kernel_rfl))
  f317 := Tryz.func213.trans (congrArg some (by kernel_rfl))
  f318 := Tryz.func214.trans (congrArg some (by kernel_rfl))
  f319 := Tryz.func215.trans (congrArg some (by kernel_rfl))
  f320 := Tryz.func216.trans (congrArg some (by kernel_rfl))
  f321 := Tryz.func219.trans (congrArg some (by kernel_rfl))
  f322 := Tryz.func220.trans (congrArg some (by kernel_rfl))
  f337 := Tryz.func251.trans (congrArg some (by kernel_rfl))
  f338 := Tryz.func252.trans (congrArg some (by kernel_rfl))
  t0 := Tryz.underlying0
  a0 := Tryz.isAgg0
  z0 := Tryz.sizeOf0
  v0 := Tryz.zeroValue0
  t2 := Tryz.underlying2
  a2 := Tryz.isAgg2
  z2 := Tryz.sizeOf2
  v2 := Tryz.zeroValue2
  t3 := Tryz.underlying3
  a3 := Tryz.isAgg3
  z3 := Tryz.sizeOf3
  v3 := Tryz.zeroValue3
  t4 := Tryz.underlying4
  a4 := Tryz.isAgg4
  z4 := Tryz.sizeOf4
  v4 := Tryz.zeroValue4
  t5 := Tryz.underlying5
  a5 := Tryz.isAgg5
  z5 := Tryz.sizeOf5
  v5 := Tryz.zeroValue5
  t9 := Tryz.underlying9
  a9 := Tryz.isAgg9
  z9 := Tryz.sizeOf9
  v9 := Tryz.zeroValue9
  t20 := Tryz.underlying20
  a20 := Tryz.isAgg20
  z20 := Tryz.sizeOf20
  v20 := Tryz.zeroValue20
  t21 := Tryz.underlying21
  a21 := Tryz.isAgg21
  z21 := Tryz.sizeOf21
  v21 := Tryz.zeroValue21
  t37 := Tryz.underlying58
  a37 := Tryz.isAgg58
  z37 := Tryz.sizeOf58
  v37 := Tryz.zeroValue58
  t46 := Tryz.underlying141
  a46 := Tryz.isAgg141
  z46 := Tryz.sizeOf141
  v46 := Tryz.zeroValue141
  t51 := Tryz.underlying212
  a51 := Tryz.isAgg212
  z51 := Tryz.sizeOf212
  v51 := Tryz.zeroValue212
  t53 := Tryz.underlying134
  a53 := Tryz.isAgg134
  z53 := Tryz.sizeOf134
  v53 := Tryz.zeroValue134
  t75 := Tryz.underlying49
  a75 := Tryz.isAgg49
  z75 := Tryz.sizeOf49
  v75 := Tryz.zeroValue49
  t76 := Tryz.underlying50
  a76 := Tryz.isAgg50
  z76 := Tryz.sizeOf50
  v76 := Tryz.zeroValue50
  t85 := Tryz.underlying129
  a85 := Tryz.isAgg129
  z85 := Tryz.sizeOf129
  v85 := Tryz.zeroValue129
  t127 := Tryz.underlying215
  a127 := Tryz.isAgg215
  z127 := Tryz.sizeOf215
  v127 := Tryz.zeroValue215
  t143 := Tryz.underlying239
  a143 := Tryz.isAgg239
  z143 := Tryz.sizeOf239
  v143 := Tryz.zeroValue239
  t145 := Tryz.underlying241
  a145 := Tryz.isAgg241
  z145 := Tryz.sizeOf241
  v145 := Tryz.zeroValue241
  t167 := Tryz.underlying128
  a167 := Tryz.isAgg128
  z167 := Tryz.sizeOf128
  v167 := Tryz.zeroValue128
  t168 := Tryz.underlying131
  a168 := Tryz.isAgg131
  z168 := Tryz.sizeOf131
  v168 := Tryz.zeroValue131
  t171 := Tryz.underlying196
  a171 := Tryz.isAgg196
  z171 := Tryz.sizeOf196
  v171 := Tryz.zeroValue196
  t173 := Tryz.underlying198
  a173 := Tryz.isAgg198
  z173 := Tryz.sizeOf198
  v173 := Tryz.zeroValue198
  t175 := Tryz.underlying202
  a175 := Tryz.isAgg202
  z175 := Tryz.sizeOf202
  v175 := Tryz.zeroValue202
  t210 := Tryz.underlying205
  a210 := Tryz.isAgg205
  z210 := Tryz.sizeOf205
  v210 := Tryz.zeroValue205
  t212 := Tryz.underlying233
  a212 := Tryz.isAgg233
  z212 := Tryz.sizeOf233
  v212 := Tryz.zeroValue233
  t213 := Tryz.underlying234
  a213 := Tryz.isAgg234
  z213 := Tryz.sizeOf234
  t232 := Tryz.underlying285
  a232 := Tryz.isAgg285
  z232 := Tryz.sizeOf285
  v232 := Tryz.zeroValue285
  t233 := Tryz.underlying286
  a233 := Tryz.isAgg286
  z233 := Tryz.sizeOf286
  v233 := Tryz.zeroValue286
  g15 := by kernel_rfl
  g16 := by kernel_rfl
  g17 := by kernel_rfl
  g18 := by kernel_rfl
  g19 := by kernel_rfl
  t80 := Tryz.underlying124
  a80 := Tryz.isAgg124
  z80 := Tryz.sizeOf124
  v80 := Tryz.zeroValue124
  i0 := by kernel_rfl
  i2 := by kernel_rfl
  i3 := by kernel_rfl
  i4 := by kernel_rfl
  i5 := by kernel_rfl
  i9 := by kernel_rfl
  i20 := by kernel_rfl
  i21 := by kernel_rfl
  i37 := by kernel_rfl
  i46 := by kernel_rfl
  i51 := by kernel_rfl
  i53 := by kernel_rfl
  i75 := by kernel_rfl
  i76 := by kernel_rfl
  i80 := by kernel_rfl
  i85 := by kernel_rfl
  i127 := by kernel_rfl
  i143 := by kernel_rfl
  i145 := by kernel_rfl
  i167 := by kernel_rfl
  i168 := by kernel_rfl
  i171 := by kernel_rfl
  i173 := by kernel_rfl
  i175 := by kernel_rfl
  i210 := by kernel_rfl
  i212 := by kernel_rfl
  i232 := by kernel_rfl
  i233 := by kernel_rfl
  m15 := by kernel_rfl
  m16 := by kernel_rfl
  m17 := by kernel_rfl
  m18 := by kernel_rfl
  m19 := by kernel_rfl
  c0 := by kernel_rfl
  c2 := by kernel_rfl
  c3 := by kernel_rfl
  c4 := by kernel_rfl
  c5 := by kernel_rfl
  c9 := by kernel_rfl
  c20 := by kernel_rfl
  c21 := by kernel_rfl
  c37 := by kernel_rfl
  c46 := by kernel_rfl
  c51 := by kernel_rfl
  c53 := by kernel_rfl
  c75 := by kernel_rfl
  c76 := by kernel_rfl
  c80 := by kernel_rfl
  c85 := by kernel_rfl
  c127 := by kernel_rfl
  c143 := by kernel_rfl
  c145 := by kernel_rfl
  c167 := by kernel_rfl
  c168 := by kernel_rfl
  c171 := by kernel_rfl
  c173 := by kernel_rfl
  c175 := by kernel_rfl
  c210 := by kernel_rfl
  c212 := by kernel_rfl
  c213 := by kernel_rfl
  c232 := by kernel_rfl
  c233 := by kernel_rfl

def Tryz.laysM171_ren : Go.Shelf.Ren := ⟨fun | 171 => 23 | 243 => 51 | 246 => 89 | 283 => 156 | 284 => 157 | 285 => 158 | 286 => 159 | 129 => 210 | 317 => 213 | 318 => 214 | 319 => 215 | 320 => 216 | 337 => 251 | 338 => 252 | n => n, fun | 3 => 3 | 9 => 9 | 2 => 2 | 4 => 4 | 171 => 196 | 0 => 0 | 53 => 134 | 37 => 58 | 5 => 5 | 173 => 198 | 212 => 233 | 51 => 212 | 20 => 20 | 213 => 234 | 46 => 141 | 232 => 285 | 233 => 286 | n => n, fun | 17 => 4 | 18 => 9 | 19 => 10 | n => n⟩
theorem Tryz.laysM171 : Go.Proofs.LaysM.n171 Tryz.prog Tryz.laysM171_ren where
  mixed := by kernel_rfl
  f129 := Tryz.func210.trans (congrArg some (by kernel_rfl))
  f171 := Tryz.func23.trans (congrArg some (by kernel_rfl))
  f243 := Tryz.func51.trans (congrArg some (by kernel_rfl))
  f246 := Tryz.func89.trans (congrArg some (by kernel_rfl))
  f283 := Tryz.func156.trans (congrArg some (by kernel_rfl))
  f284 := Tryz.func157.trans (congrArg some (by kernel_rfl))
  f285 := Tryz.func158.trans (congrArg some (by kernel_rfl))
  f286 := Tryz.func159.trans (congrArg some (by kernel_rfl))
  f317 := Tryz.func213.trans (congrArg some (by kernel_rfl))
  f318 := Tryz.func214.trans (congrArg some (by kernel_rfl))
  f319 := Tryz.func215.trans (congrArg some (by kernel_rfl))
  f320 := Tryz.func216.trans (congrArg some (by kernel_rfl))
  f337 := Tryz.func251.trans (congrArg some (by kernel_rfl))
  f338 := Tryz.func252.trans (congrArg some (by kernel_rfl))
  t0 := Tryz.underlying0
  a0 := Tryz.isAgg0
  z0 := Tryz.sizeOf0
  v0 := Tryz.zeroValue0
  t2 := Tryz.underlying2
  a2 := Tryz.isAgg2
  z2 := Tryz.sizeOf2
  v2 := Tryz.zeroValue2
  t3 := Tryz.underlying3
  a3 := Tryz.isAgg3
  z3 := Tryz.sizeOf3
  v3 := Tryz.zeroValue3
  t4 := Tryz.underlying4
  a4 := Tryz.isAgg4
  z4 := Tryz.sizeOf4
  v4 := Tryz.zeroValue4
  t5 := Tryz.underlying5
  a5 := Tryz.isAgg5
  z5 := Tryz.sizeOf5
  v5 := Tryz.zeroValue5
  t9 := Tryz.underlying9
  a9 := Tryz.isAgg9
  z9 := Tryz.sizeOf9
  v9 := Tryz.zeroValue9
  t20 := Tryz.underlying20
  a20 := Tryz.isAgg20
  z20 := Tryz.sizeOf20
  v20 := Tryz.zeroValue20
  t37 := Tryz.underlying58
  a37 := Tryz.isAgg58
  z37 := Tryz.sizeOf58
  v37 := Tryz.zeroValue58
  t46 := Tryz.underlying141
  a46 := Tryz.isAgg141
  z46 := Tryz.sizeOf141
  v46 := Tryz.zeroValue141
  t51 := Tryz.underlying212
  a51 := Tryz.isAgg212
  z51 := Tryz.sizeOf212
  v51 := Tryz.zeroValue212
  t53 := Tryz.underlying134
  a53 := Tryz.isAgg134
  z53 := Tryz.sizeOf134
  v53 := Tryz.zeroValue134
  t171 := Tryz.underlying196
  a171 := Tryz.isAgg196
  z171 := Tryz.sizeOf196
  v171 := Tryz.zeroValue196
  t173 := Tryz.underlying198
  a173 := Tryz.isAgg198
  z173 := Tryz.sizeOf198
  v173 := Tryz.zeroValue198
  t212 := Tryz.underlying233
  a212 := Tryz.isAgg233
  z212 := Tryz.sizeOf233
  v212 := Tryz.zeroValue233
  t213 := Tryz.underlying234
  a213 := Tryz.isAgg234
  z213 := Tryz.sizeOf234
  t232 := Tryz.underlying285
  a232 := Tryz.isAgg285
  z232 := Tryz.sizeOf285
  v232 := Tryz.zeroValue285
  t233 := Tryz.underlying286
  a233 := Tryz.isAgg286
  z233 := Tryz.sizeOf286
  v233 := Tryz.zeroValue286
  g17 := by kernel_rfl
  g18 := by kernel_rfl
  g19 := by kernel_rfl
  i0 := by kernel_rfl
  i2 := by kernel_rfl
  i3 := by kernel_rfl
  i4 := by kernel_rfl
  i5 := by kernel_rfl
  i9 := by kernel_rfl
  i20 := by kernel_rfl
  i37 := by kernel_rfl
  i46 := by kernel_rfl
  i51 := by kernel_rfl
  i53 := by kernel_rfl
  i171 := by kernel_rfl
  i173 := by kernel_rfl
  i212 := by kernel_rfl
  i232 := by kernel_rfl
  i233 := by kernel_rfl
  m17 := by kernel_rfl
  m18 := by kernel_rfl
  m19 := by kernel_rfl

namespace YtlbmpbkfkmabaaaGreatDoor
open Go Go.RowKit Ev

theorem pow_tab {w : World} (h : J0.I w) : Lib.TabIs Tryz.prog w "internal/strconv.uint64pow10" .u64 Lib.pow10Tab := by
  obtain ⟨t, fr, h⟩ := h.2.1
  unfold Lib.TabIs World.var?
  rw [show Tryz.prog.globalNamed "internal/strconv.uint64pow10" = some 4 by kernel_rfl]
  simp [h]

theorem itoa_pure {n : Int} (h0 : 0 ≤ n) (h1 : n ≤ 9223372036854775807) : Pure Tryz.prog J0 23 [.int .i64 n] (.string ⟨⟨Lib.decDigits n.toNat⟩⟩) := by
  refine ⟨rfl, rfl, .inl ⟨enters_of Tryz.func23 (by kernel_rfl) (c := _) rfl, fun w hw => ?_⟩⟩
  refine (Any.strconv_Itoa Tryz.laysM171 n (by omega) h1 w (pow_tab hw)).mono fun e w' ⟨he, k, os, hw'⟩ => ⟨?_, ?_⟩
  · rw [he, Lib.itoa, if_neg (by omega)]
  · rw [hw']; exact Lib.below_grow _ w (Nat.le_refl _) k os

def specItoa : List Value → Option (Value × List Prop)
  | [.int .i64 n] => some (.string ⟨⟨Lib.decDigits n.toNat⟩⟩, [0 ≤ n ∧ n ≤ 9223372036854775807])
  | _ => none

theorem specItoa_ok (args : List Value) (v : Value) (l : List Prop) (h : specItoa args = some (v, l)) (hl : allP l) : Pure Tryz.prog J0 23 args v := by
  unfold specItoa at h
  split at h
  · cases h; exact itoa_pure hl.1.1 hl.1.2
  · cases h

/-- The error beside the number that a text is read as; it lies in a block that nothing else names. -/
def errV (t : TypeId) (l : List UInt8) (n : Nat) : Value := match Lib.atoiAll l with
  | .ok _ => .nilIface
  | _ => .iface t (.pointer (some ⟨n, 0, none⟩))

def specAtoi (t : TypeId) (args : List Value) (H : Heap) (n : Nat) (ds : List Bool) : Option CR :=
  match args with
  | [.string ⟨⟨l⟩⟩] => some ⟨.tuple ⟨[.int .i64 (Sh.num l), errV t l n]⟩, H, n + 1, [l.length ≤ 281474976710656], ds⟩
  | _ => none

theorem specAtoi_ok : SpecOk Tryz.prog J0 28 (specAtoi (Tryz.laysC172_ren.t 168)) := by
  intro args H n ds r h hl
  unfold specAtoi at h
  split at h
  case h_2 => cases h
  rename_i l
  cases h
  have hlen : l.length ≤ 281474976710656 := hl.1
  refine ⟨Nat.le_add_right _ _, enters_of Tryz.func28 (by kernel_rfl) (c := _) rfl, fun B M ρ w vs hp hB hI hS => ?_⟩
  obtain ⟨hS0, hvs⟩ := hS ρ (Agree.refl _ _)
  have hvs' : vs = [.string ⟨⟨l⟩⟩] := by rw [hvs]; simp [rvL, rv]
  subst hvs'
  have hsz : (⟨⟨l⟩⟩ : ByteArray).size ≤ 281474976710656 := hlen
  have fin : ∀ (N : Nat) (w' : World), w.heap.size ≤ N → Below w.heap.size w w' → (∀ v, Lib.atoiAll l ≠ .ok v) →
      ∃ ρ1 v, Agree n ρ ρ1 ∧ (Ending.returned (.tuple #[.int .i64 (Sh.num l), .iface (Tryz.laysC172_ren.t 168) (.pointer (some ⟨N, 0, none⟩))]) = .returned v) ∧ Keeps B M w w' ∧
        ∀ ρ', Agree (n + 1) ρ1 ρ' → v = rv ρ' (.tuple ⟨[.int .i64 (Sh.num l), errV (Tryz.laysC172_ren.t 168) l n]⟩) ∧ Sim Tryz.prog B M ρ' H w' := by
    intro N w' _ hb hne
    refine ⟨fun i => if i = n then some N else ρ i, _, fun i hi => if_neg (by omega), rfl, Keeps.of_below hb hB, fun ρ' ha => ?_⟩
    have hn : ρ' n = some N := by rw [ha n (by omega)]; simp
    have hag : Agree n ρ ρ' := fun i hi => by rw [ha i (by omega)]; exact if_neg (by omega)
    refine ⟨?_, ((hS ρ' hag).1).below hb⟩
    have e : errV (Tryz.laysC172_ren.t 168) l n = .iface (Tryz.laysC172_ren.t 168) (.pointer (some ⟨n, 0, none⟩)) := by
      unfold errV
      split
      · rename_i v hv; exact absurd hv (hne v)
      · rfl
    rw [e]
    simp [rv, rvA, rvL, rAddr, hn]
  rcases hat : Lib.atoiAll l with v | _ | _
  · have hnum : Sh.num l = v := by unfold Sh.num; rw [hat]
    refine (Any.strconv_Atoi_ok Tryz.laysC172 ⟨⟨l⟩⟩ (Nat.le_trans hsz (by decide)) v hat w).mono fun e w' ⟨he, hw⟩ => ?_
    have hb : Below w.heap.size w w' := by
      rcases hw with rfl | ⟨t, rfl⟩
      · exact Below.refl _ _
      · exact Lib.bytesWorld_below _ _ _
    refine ⟨fun i => if i = n then none else ρ i, _, fun i hi => if_neg (by omega), he, Keeps.of_below hb hB, fun ρ' ha => ?_⟩
    have hag : Agree n ρ ρ' := fun i hi => by rw [ha i (by show i < n + 1; omega)]; exact if_neg (by omega)
    refine ⟨?_, ((hS ρ' hag).1).below hb⟩
    simp only
    rw [show errV (Tryz.laysC172_ren.t 168) l n = .nilIface by unfold errV; rw [hat], hnum]
    simp [rv, rvA, rvL]
  · obtain ⟨ev, h1, h2⟩ := hI.2.2.2.2.2.2.1
    have hnum : Sh.num l = 0 := by unfold Sh.num; rw [hat]
    refine (Any.strconv_Atoi_syntax Tryz.laysC172 ⟨⟨l⟩⟩ hsz hat ev w h1 h2).mono fun e w' ⟨N, he, hN, _, hb⟩ => ?_
    have := fin N w' hN hb (fun v hv => by rw [hat] at hv; cases hv)
    rw [hnum] at this ⊢
    rw [he]
    exact this
  · obtain ⟨ev, h1, h2⟩ := hI.2.2.2.2.2.2.2
    have hnum : Sh.num l = Lib.atoiSat l := by unfold Sh.num; rw [hat]
    refine (Any.strconv_Atoi_range Tryz.laysC172 ⟨⟨l⟩⟩ hsz hat ev w h1 h2).mono fun e w' ⟨N, he, hN, _, hb⟩ => ?_
    have := fin N w' hN hb (fun v hv => by rw [hat] at hv; cases hv)
    rw [hnum] at this ⊢
    rw [he]
    exact this

end Go.Proofs.YtlbmpbkfkmabaaaGreatDoor
