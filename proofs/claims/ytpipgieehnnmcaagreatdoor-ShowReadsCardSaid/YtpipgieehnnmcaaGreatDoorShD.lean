/-
  strconv.Itoa and strconv.Atoi by the library's contracts (numbers of seat r5).
-/
import Derived.Test.YtpipgieehnnmcaaGreatDoorNuB
import Derived.Test.YtpipgieehnnmcaaGreatDoorEvM
import Derived.Shelf.Strconv.AtoiAll
import Derived.Shelf.Strconv.Itoa3
import Derived.Test.YtpipgieehnnmcaaGreatDoorShA
import Derived.Lib.AppendIntMem
namespace Go.Proofs

def Tryz.laysC172_ren : Go.Shelf.Ren := ⟨fun | 172 => 114 | 244 => 211 | 245 => 212 | 247 => 305 | 279 => 306 | 280 => 307 | 281 => 308 | 282 => 309 | 287 => 388 | 316 => 350 | 171 => 91 | 205 => 389 | 321 => 428 | 322 => 429 | 243 => 188 | 246 => 278 | 283 => 271 | 284 => 272 | 285 => 273 | 286 => 274 | 129 => 370 | 317 => 369 | 318 => 371 | 319 => 372 | 320 => 373 | 337 => 419 | 338 => 420 | n => n, fun | 9 => 9 | 3 => 3 | 75 => 141 | 76 => 142 | 4 => 4 | 5 => 5 | 167 => 337 | 37 => 146 | 0 => 0 | 85 => 338 | 2 => 2 | 168 => 340 | 53 => 25 | 175 => 375 | 46 => 110 | 210 => 396 | 127 => 306 | 145 => 412 | 143 => 410 | 21 => 21 | 171 => 315 | 173 => 317 | 212 => 386 | 51 => 42 | 20 => 20 | 213 => 387 | 232 => 421 | 233 => 422 | 80 => 198 | n => n, fun | 15 => 5 | 16 => 6 | 17 => 3 | 18 => 9 | 19 => 10 | n => n⟩
theorem Tryz.laysC172 : Go.Proofs.LaysC.n172 Tryz.prog Tryz.laysC172_ren where
  mixed := by kernel_rfl
  f129 := Tryz.func370.trans (congrArg some (by kernel_rfl))
  f171 := Tryz.func91.trans (congrArg some (by kernel_rfl))
  f172 := Tryz.func114.trans (congrArg some (by kernel_rfl))
  f205 := Tryz.func389.trans (congrArg some (by kernel_rfl))
  f243 := Tryz.func188.trans (congrArg some (by kernel_rfl))
  f244 := Tryz.func211.trans (congrArg some (by kernel_rfl))
  f245 := Tryz.func212.trans (congrArg some (by kernel_rfl))
  f246 := Tryz.func278.trans (congrArg some (by kernel_rfl))
  f247 := Tryz.func305.trans (congrArg some (by kernel_rfl))
  f279 := Tryz.func306.trans (congrArg some (by kernel_rfl))
  f280 := Tryz.func307.trans (congrArg some (by kernel_rfl))
  f281 := Tryz.func308.trans (congrArg some (by kernel_rfl))
  f282 := Tryz.func309.trans (congrArg some (by kernel_rfl))
  f283 := Tryz.func271.trans (congrArg some (by kernel_rfl))
  f284 := Tryz.func272.trans (congrArg some (by kernel_rfl))
  f285 := Tryz.func273.trans (congrArg some (by kernel_rfl))
  f286 := Tryz.func274.trans (congrArg some (by kernel_rfl))
  f287 := Tryz.func388.trans (congrArg some (by kernel_rfl))
  f316 := Tryz.func350.trans (congrArg some (by kernel_rfl))
  f317 := Tryz.func369.trans (congrArg some (by kernel_rfl))
  f318 := Tryz.func371.trans (congrArg some (by kernel_rfl))
  f319 := Tryz.func372.trans (congrArg some (by kernel_rfl))
  f320 := Tryz.func373.trans (congrArg some (by kernel_rfl))
  f321 := Tryz.func428.trans (congrArg some (by kernel_rfl))
  f322 := Tryz.func429.trans (congrArg some (by kernel_rfl))
  f337 := Tryz.func419.trans (congrArg some (by kernel_rfl))
  f338 := Tryz.func420.trans (congrArg some (by kernel_rfl))
  t0 := Tryz.underlying0
  a0 := Tryz.isAgg0
  z0 := Tryz.sizeOf0
  v0 := Tryz.zeroValue0
  t2 := Tryz.underlying2
  a2 := Tryz.isAgg2
  z2 := Tryz.sizeOf2
  v2 := Tryz.zeroValue2
  t3 := Tryz.underlying3
  a3 := Tryz.isAgg3
  z3 := Tryz.sizeOf3
  v3 := Tryz.zeroValue3
  t4 := Tryz.underlying4
  a4 := Tryz.isAgg4
  z4 := Tryz.sizeOf4
  v4 := Tryz.zeroValue4
  t5 := Tryz.underlying5
  a5 := Tryz.isAgg5
  z5 := Tryz.sizeOf5
  v5 := Tryz.zeroValue5
  t9 := Tryz.underlying9
  a9 := Tryz.isAgg9
  z9 := Tryz.sizeOf9
  v9 := Tryz.zeroValue9
  t20 := Tryz.underlying20
  a20 := Tryz.isAgg20
  z20 := Tryz.sizeOf20
  v20 := Tryz.zeroValue20
  t21 := Tryz.underlying21
  a21 := Tryz.isAgg21
  z21 := Tryz.sizeOf21
  v21 := Tryz.zeroValue21
  t37 := Tryz.underlying146
  a37 := Tryz.isAgg146
  z37 := Tryz.sizeOf146
  v37 := Tryz.zeroValue146
  t46 := Tryz.underlying110
  a46 := Tryz.isAgg110
  z46 := Tryz.sizeOf110
  v46 := Tryz.zeroValue110
  t51 := Tryz.underlying42
  a51 := Tryz.isAgg42
  z51 := Tryz.sizeOf42
  v51 := Tryz.zeroValue42
  t53 := Tryz.underlying25
  a53 := Tryz.isAgg25
  z53 := Tryz.sizeOf25
  v53 := Tryz.zeroValue25
  t75 := Tryz.underlying141
  a75 := Tryz.isAgg141
  z75 := Tryz.sizeOf141
  v75 := Tryz.zeroValue141
  t76 := Tryz.underlying142
  a76 := Tryz.isAgg142
  z76 := Tryz.sizeOf142
  v76 := Tryz.zeroValue142
  t85 := Tryz.underlying338
  a85 := Tryz.isAgg338
  z85 := Tryz.sizeOf338
  v85 := Tryz.zeroValue338
  t127 := Tryz.underlying306
  a127 := Tryz.isAgg306
  z127 := Tryz.sizeOf306
  v127 := Tryz.zeroValue306
  t143 := Tryz.underlying410
  a143 := Tryz.isAgg410
  z143 := Tryz.sizeOf410
  v143 := Tryz.zeroValue410
  t145 := Tryz.underlying412
  a145 := Tryz.isAgg412
  z145 := Tryz.sizeOf412
  v145 := Tryz.zeroValue412
  t167 := Tryz.underlying337
  a167 := Tryz.isAgg337
  z167 := Tryz.sizeOf337
  v167 := Tryz.zeroValue337
  t168 := Tryz.underlying340
  a168 := Tryz.isAgg340
  z168 := Tryz.sizeOf340
  v168 := Tryz.zeroValue340
  t171 := Tryz.underlying315
  a171 := Tryz.isAgg315
  z171 := Tryz.sizeOf315
  v171 := Tryz.zeroValue315
  t173 := Tryz.underlying317
  a173 := Tryz.isAgg317
  z173 := Tryz.sizeOf317
  v173 := Tryz.zeroValue317
  t175 := Tryz.underlying375
  a175 := Tryz.isAgg375
  z175 := Tryz.sizeOf375
  v175 := Tryz.zeroValue375
  t210 := Tryz.underlying396
  a210 := Tryz.isAgg396
  z210 := Tryz.sizeOf396
  v210 := Tryz.zeroValue396
  t212 := Tryz.underlying386
  a212 := Tryz.isAgg386
  z212 := Tryz.sizeOf386
  v212 := Tryz.zeroValue386
  t213 := Tryz.underlying387
  a213 := Tryz.isAgg387
  z213 := Tryz.sizeOf387
  t232 := Tryz.underlying421
  a232 := Tryz.isAgg421
  z232 := Tryz.sizeOf421
  v232 := Tryz.zeroValue421
  t233 := Tryz.underlying422
  a233 := Tryz.isAgg422
  z233 := Tryz.sizeOf422
  v233 := Tryz.zeroValue422
  g15 := by kernel_rfl
  g16 := by kernel_rfl
  g17 := by kernel_rfl
  g18 := by kernel_rfl
  g19 := by kernel_rfl
  t80 := Tryz.underlying198
  a80 := Tryz.isAgg198
  z80 := Tryz.sizeOf198
  v80 := Tryz.zeroValue198
  i0 := by kernel_rfl
  i2 := by kernel_rfl
  i3 := by kernel_rfl
  i4 := by kernel_rfl
  i5 := by kernel_rfl
  i9 := by kernel_rfl
  i20 := by kernel_rfl
  i21 := by kernel_rfl
  i37 := by kernel_rfl
  i46 := by kernel_rfl
  i51 := by kernel_rfl
  i53 := by kernel_rfl
  i75 := by kernel_rfl
  i76 := by kernel_rfl
  i80 := by kernel_rfl
  i85 := by kernel_rfl
  i127 := by kernel_rfl
  i143 := by kernel_rfl
  i145 := by kernel_rfl
  i167 := by kernel_rfl
  i168 := by kernel_rfl
  i171 := by kernel_rfl
  i173 := by kernel_rfl
  i175 := by kernel_rfl
  i210 := by kernel_rfl
  i212 := by kernel_rfl
  i232 := by kernel_rfl
  i233 := by kernel_rfl
  m15 := by kernel_rfl
  m16 := by kernel_rfl
  m17 := by kernel_rfl
  m18 := by kernel_rfl
  m19 := by kernel_rfl
  c0 := by kernel_rfl
  c2 := by kernel_rfl
  c3 := by kernel_rfl
  c4 := by kernel_rfl
  c5 := by kernel_rfl
  c9 := by kernel_rfl
  c20 := by kernel_rfl
  c21 := by kernel_rfl
  c37 := by kernel_rfl
  c46 := by kernel_rfl
  c51 := by kernel_rfl
  c53 := by kernel_rfl
  c75 := by kernel_rfl
  c76 := by kernel_rfl
  c80 := by kernel_rfl
  c85 := by kernel_rfl
  c127 := by kernel_rfl
  c143 := by kernel_rfl
  c145 := by kernel_rfl
  c167 := by kernel_rfl
  c168 := by kernel_rfl
  c171 := by kernel_rfl
  c173 := by kernel_rfl
  c175 := by kernel_rfl
  c210 := by kernel_rfl
  c212 := by kernel_rfl
  c213 := by kernel_rfl
  c232 := by kernel_rfl
  c233 := by kernel_rfl

def Tryz.laysM171_ren : Go.Shelf.Ren := ⟨fun | 171 => 91 | 243 => 188 | 246 => 278 | 283 => 271 | 284 => 272 | 285 => 273 | 286 => 274 | 129 => 370 | 317 => 369 | 318 => 371 | 319 => 372 | 320 => 373 | 337 => 419 | 338 => 420 | n => n, fun | 3 => 3 | 9 => 9 | 2 => 2 | 4 => 4 | 171 => 315 | 0 => 0 | 53 => 25 | 37 => 146 | 5 => 5 | 173 => 317 | 212 => 386 | 51 => 42 | 20 => 20 | 213 => 387 | 46 => 110 | 232 => 421 | 233 => 422 | n => n, fun | 17 => 3 | 18 => 9 | 19 => 10 | n => n⟩
theorem Tryz.laysM171 : Go.Proofs.LaysM.n171 Tryz.prog Tryz.laysM171_ren where
  mixed := by kernel_rfl
  f129 := Tryz.func370.trans (congrArg some (by kernel_rfl))
  f171 := Tryz.func91.trans (congrArg some (by kernel_rfl))
  f243 := Tryz.func188.trans (congrArg some (by kernel_rfl))
  f246 := Tryz.func278.trans (congrArg some (by kernel_rfl))
  f283 := Tryz.func271.trans (congrArg some (by kernel_rfl))
  f284 := Tryz.func272.trans (congrArg some (by kernel_rfl))
  f285 := Tryz.func273.trans (congrArg some (by kernel_rfl))
  f286 := Tryz.func274.trans (congrArg some (by kernel_rfl))
  f317 := Tryz.func369.trans (congrArg some (by kernel_rfl))
  f318 := Tryz.func371.trans (congrArg some (by kernel_rfl))
  f319 := Tryz.func372.trans (congrArg some (by kernel_rfl))
  f320 := Tryz.func373.trans (congrArg some (by kernel_rfl))
  f337 := Tryz.func419.trans (congrArg some (by kernel_rfl))
  f338 := Tryz.func420.trans (congrArg some (by kernel_rfl))
  t0 := Tryz.underlying0
  a0 := Tryz.isAgg0
  z0 := Tryz.sizeOf0
  v0 := Tryz.zeroValue0
  t2 := Tryz.underlying2
  a2 := Tryz.isAgg2
  z2 := Tryz.sizeOf2
  v2 := Tryz.zeroValue2
  t3 := Tryz.underlying3
  a3 := Tryz.isAgg3
  z3 := Tryz.sizeOf3
  v3 := Tryz.zeroValue3
  t4 := Tryz.underlying4
  a4 := Tryz.isAgg4
  z4 := Tryz.sizeOf4
  v4 := Tryz.zeroValue4
  t5 := Tryz.underlying5
  a5 := Tryz.isAgg5
  z5 := Tryz.sizeOf5
  v5 := Tryz.zeroValue5
  t9 := Tryz.underlying9
  a9 := Tryz.isAgg9
  z9 := Tryz.sizeOf9
  v9 := Tryz.zeroValue9
  t20 := Tryz.underlying20
  a20 := Tryz.isAgg20
  z20 := Tryz.sizeOf20
  v20 := Tryz.zeroValue20
  t37 := Tryz.underlying146
  a37 := Tryz.isAgg146
  z37 := Tryz.sizeOf146
  v37 := Tryz.zeroValue146
  t46 := Tryz.underlying110
  a46 := Tryz.isAgg110
  z46 := Tryz.sizeOf110
  v46 := Tryz.zeroValue110
  t51 := Tryz.underlying42
  a51 := Tryz.isAgg42
  z51 := Tryz.sizeOf42
  v51 := Tryz.zeroValue42
  t53 := Tryz.underlying25
  a53 := Tryz.isAgg25
  z53 := Tryz.sizeOf25
  v53 := Tryz.zeroValue25
  t171 := Tryz.underlying315
  a171 := Tryz.isAgg315
  z171 := Tryz.sizeOf315
  v171 := Tryz.zeroValue315
  t173 := Tryz.underlying317
  a173 := Tryz.isAgg317
  z173 := Tryz.sizeOf317
  v173 := Tryz.zeroValue317
  t212 := Tryz.underlying386
  a212 := Tryz.isAgg386
  z212 := Tryz.sizeOf386
  v212 := Tryz.zeroValue386
  t213 := Tryz.underlying387
  a213 := Tryz.isAgg387
  z213 := Tryz.sizeOf387
  t232 := Tryz.underlying421
  a232 := Tryz.isAgg421
  z232 := Tryz.sizeOf421
  v232 := Tryz.zeroValue421
  t233 := Tryz.underlying422
  a233 := Tryz.isAgg422
  z233 := Tryz.sizeOf422
  v233 := Tryz.zeroValue422
  g17 := by kernel_rfl
  g18 := by kernel_rfl
  g19 := by kernel_rfl
  i0 := by kernel_rfl
  i2 := by kernel_rfl
  i3 := by kernel_rfl
  i4 := by kernel_rfl
  i5 := by kernel_rfl
  i9 := by kernel_rfl
  i20 := by kernel_rfl
  i37 := by kernel_rfl
  i46 := by kernel_rfl
  i51 := by kernel_rfl
  i53 := by kernel_rfl
  i171 := by kernel_rfl
  i173 := by kernel_rfl
  i212 := by kernel_rfl
  i232 := by kernel_rfl
  i233 := by kernel_rfl
  m17 := by kernel_rfl
  m18 := by kernel_rfl
  m19 := by kernel_rfl

namespace YtpipgieehnnmcaaGreatDoor
open Go Go.RowKit Ev

theorem pow_tab {w : World} (h : J0.I w) : Lib.TabIs Tryz.prog w "internal/strconv.uint64pow10" .u64 Lib.pow10Tab := by
  obtain ⟨t, fr, h⟩ := h.2.1
  unfold Lib.TabIs World.var?
  rw [show Tryz.prog.globalNamed "internal/strconv.uint64pow10" = some 3 by kernel_rfl]
  simp [h]

theorem itoa_pure {n : Int} (h0 : 0 ≤ n) (h1 : n ≤ 9223372036854775807) : Pure Tryz.prog J0 91 [.int .i64 n] (.string ⟨⟨Lib.decDigits n.toNat⟩⟩) := by
  refine ⟨rfl, rfl, .inl ⟨enters_of Tryz.func91 (by kernel_rfl) (c := _) rfl, fun w hw => ?_⟩⟩
  refine (Any.strconv_Itoa Tryz.laysM171 n (by omega) h1 w (pow_tab hw)).mono fun e w' ⟨he, k, os, hw'⟩ => ⟨?_, ?_⟩
  · rw [he, Lib.itoa, if_neg (by omega)]
  · rw [hw']; exact Lib.below_grow _ w (Nat.le_refl _) k os

def specItoa : List Value → Option (Value × List Prop)
  | [.int .i64 n] => some (.string ⟨⟨Lib.decDigits n.toNat⟩⟩, [0 ≤ n ∧ n ≤ 9223372036854775807])
  | _ => none

theorem specItoa_ok (args : List Value) (v : Value) (l : List Prop) (h : specItoa args = some (v, l)) (hl : allP l) : Pure Tryz.prog J0 91 args v := by
  unfold specItoa at h
  split at h
  · cases h; exact itoa_pure hl.1.1 hl.1.2
  · cases h

/-- The error beside the number that a text is read as; it lies in a block that nothing else names. -/
def errV (t : TypeId) (l : List UInt8) (n : Nat) : Value := match Lib.atoiAll l with
  | .ok _ => .nilIface
  | _ => .iface t (.pointer (some ⟨n, 0, none⟩))

def specAtoi (t : TypeId) (args : List Value) (H : Heap) (n : Nat) (ds : List Bool) : Option CR :=
  match args with
  | [.string ⟨⟨l⟩⟩] => some ⟨.tuple ⟨[.int .i64 (Sh.num l), errV t l n]⟩, H, n + 1, [l.length ≤ 281474976710656], ds⟩
  | _ => none

theorem specAtoi_ok : SpecOk Tryz.prog J0 114 (specAtoi (Tryz.laysC172_ren.t 168)) := by
  intro args H n ds r h hl
  unfold specAtoi at h
  split at h
  case h_2 => cases h
  rename_i l
  cases h
  have hlen : l.length ≤ 281474976710656 := hl.1
  refine ⟨Nat.le_add_right _ _, enters_of Tryz.func114 (by kernel_rfl) (c := _) rfl, fun B M ρ w vs hp hB hI hS => ?_⟩
  obtain ⟨hS0, hvs⟩ := hS ρ (Agree.refl _ _)
  have hvs' : vs = [.string ⟨⟨l⟩⟩] := by rw [hvs]; simp [rvL, rv]
  subst hvs'
  have hsz : (⟨⟨l⟩⟩ : ByteArray).size ≤ 281474976710656 := hlen
  have fin : ∀ (N : Nat) (w' : World), w.heap.size ≤ N → Below w.heap.size w w' → (∀ v, Lib.atoiAll l ≠ .ok v) →
      ∃ ρ1 v, Agree n ρ ρ1 ∧ (Ending.returned (.tuple #[.int .i64 (Sh.num l), .iface (Tryz.laysC172_ren.t 168) (.pointer (some ⟨N, 0, none⟩))]) = .returned v) ∧ Keeps B M w w' ∧
        ∀ ρ', Agree (n + 1) ρ1 ρ' → v = rv ρ' (.tuple ⟨[.int .i64 (Sh.num l), errV (Tryz.laysC172_ren.t 168) l n]⟩) ∧ Sim Tryz.prog B M ρ' H w' := by
    intro N w' _ hb hne
    refine ⟨fun i => if i = n then some N else ρ i, _, fun i hi => if_neg (by omega), rfl, Keeps.of_below hb hB, fun ρ' ha => ?_⟩
    have hn : ρ' n = some N := by rw [ha n (by omega)]; simp
    have hag : Agree n ρ ρ' := fun i hi => by rw [ha i (by omega)]; exact if_neg (by omega)
    refine ⟨?_, ((hS ρ' hag).1).below hb⟩
    have e : errV (Tryz.laysC172_ren.t 168) l n = .iface (Tryz.laysC172_ren.t 168) (.pointer (some ⟨n, 0, none⟩)) := by
      unfold errV
      split
      · rename_i v hv; exact absurd hv (hne v)
      · rfl
    rw [e]
    simp [rv, rvA, rvL, rAddr, hn]
  rcases hat : Lib.atoiAll l with v | _ | _
  · have hnum : Sh.num l = v := by unfold Sh.num; rw [hat]
    refine (Any.strconv_Atoi_ok Tryz.laysC172 ⟨⟨l⟩⟩ (Nat.le_trans hsz (by decide)) v hat w).mono fun e w' ⟨he, hw⟩ => ?_
    have hb : Below w.heap.size w w' := by
      rcases hw with rfl | ⟨t, rfl⟩
      · exact Below.refl _ _
      · exact Lib.bytesWorld_below _ _ _
    refine ⟨fun i => if i = n then none else ρ i, _, fun i hi => if_neg (by omega), he, Keeps.of_below hb hB, fun ρ' ha => ?_⟩
    have hag : Agree n ρ ρ' := fun i hi => by rw [ha i (by show i < n + 1; omega)]; exact if_neg (by omega)
    refine ⟨?_, ((hS ρ' hag).1).below hb⟩
    simp only
    rw [show errV (Tryz.laysC172_ren.t 168) l n = .nilIface by unfold errV; rw [hat], hnum]
    simp [rv, rvA, rvL]
  · obtain ⟨ev, h1, h2⟩ := hI.2.2.2.2.2.2.1
    have hnum : Sh.num l = 0 := by unfold Sh.num; rw [hat]
    refine (Any.strconv_Atoi_syntax Tryz.laysC172 ⟨⟨l⟩⟩ hsz hat ev w h1 h2).mono fun e w' ⟨N, he, hN, _, hb⟩ => ?_
    have := fin N w' hN hb (fun v hv => by rw [hat] at hv; cases hv)
    rw [hnum] at this ⊢
    rw [he]
    exact this
  · obtain ⟨ev, h1, h2⟩ := hI.2.2.2.2.2.2.2
    have hnum : Sh.num l = Lib.atoiSat l := by unfold Sh.num; rw [hat]
    refine (Any.strconv_Atoi_range Tryz.laysC172 ⟨⟨l⟩⟩ hsz hat ev w h1 h2).mono fun e w' ⟨N, he, hN, _, hb⟩ => ?_
    have := fin N w' hN hb (fun v hv => by rw [hat] at hv; cases hv)
    rw [hnum] at this ⊢
    rw [he]
    exact this

end Go.Proofs.YtpipgieehnnmcaaGreatDoor
