/-
  Capitals of a text, rune by rune and byte by byte: beside a text of ASCII bytes both answer alike.
-/
import Derived.Test.YtaopinmjgjpiiaaGreatDoorNuA
import Derived.Shelf.Strings.MapAny
import Derived.Lib.TrimAscii
namespace Go.Proofs.YtaopinmjgjpiiaaGreatDoor
open Go Go.Lib

def capR (r : Int) : Int := if 97 ≤ r ∧ r ≤ 122 then r - 32 else r
def capC (c : UInt8) : UInt8 := if 97 ≤ c.toNat ∧ c.toNat ≤ 122 then c - 32 else c

set_option maxRecDepth 100000 in
theorem cap_byte : ∀ i : Fin 128, encodeRune (capR (i.val : Int)) = [capC (UInt8.ofNat i.val)] := by decide
theorem capR_range (r : Int) (h : 0 ≤ r) (h2 : r ≤ 1114111) : 0 ≤ capR r ∧ capR r ≤ 2147483647 := by
  unfold capR
  split <;> omega
theorem capC_high {c : UInt8} (h : 128 ≤ c.toNat) : capC c = c := by
  unfold capC
  rw [if_neg (by omega)]
theorem toU8_nat {n : Nat} (h : n < 256) : (n.toUInt8).toNat = n := by
  show (UInt8.ofNat n).toNat = n
  simp [Nat.mod_eq_of_lt h]
theorem enc_high {r : Int} (h : 128 ≤ r) : ∃ b ∈ encodeRune r, 128 ≤ b.toNat := by
  unfold encodeRune encodeRuneZ
  split
  · omega
  split
  · exact ⟨_, List.mem_map.2 ⟨_, List.mem_cons_self, rfl⟩, by rw [toU8_nat (by omega)]; omega⟩
  split
  · exact ⟨_, List.mem_map.2 ⟨_, List.mem_cons_self, rfl⟩, by rw [toU8_nat (by omega)]; omega⟩
  split
  · exact ⟨_, List.mem_map.2 ⟨_, List.mem_cons_self, rfl⟩, by rw [toU8_nat (by omega)]; omega⟩
  · exact ⟨_, List.mem_map.2 ⟨_, List.mem_cons_self, rfl⟩, by decide⟩
theorem capD_ascii : ∀ (l : List UInt8), (∀ b ∈ l, b.toNat < 128) → mapD capR l = l.map capC
  | [], _ => rfl
  | b :: t, ha => by
    have hb := ha b List.mem_cons_self
    have ih := capD_ascii t (fun x hx => ha x (List.mem_cons_of_mem _ hx))
    rw [mapD_step capR (b :: t) (by simp), decodeL_ascii b t hb]
    dsimp only
    rw [if_pos (capR_range b.toNat (by omega) (by omega)).1, cap_byte ⟨b.toNat, hb⟩, List.drop_succ_cons, List.drop_zero, ih]
    simp
theorem decode_high {b : UInt8} {t : List UInt8} (h : 128 ≤ b.toNat) : 128 ≤ (decodeL (b :: t)).1 := by
  rw [decodeL_N]
  have e : ((b :: t).getD 0 0).toNat = b.toNat := rfl
  rw [e]
  rcases decodeN_shape (b :: t).length b.toNat ((b :: t).getD 1 0).toNat ((b :: t).getD 2 0).toNat ((b :: t).getD 3 0).toNat with ⟨c, e⟩ | ⟨c1, c2, c3, cv, e⟩ | ⟨c1, c2, c3, c4, cv, cs, e⟩ | ⟨c1, c2, c3, c4, c5, cv, cw, e⟩ | e
  · omega
  · rw [e]; exact cv
  · rw [e]; dsimp only; omega
  · rw [e]; dsimp only; omega
  · rw [e]; decide
theorem capD_high : ∀ (n : Nat) (l : List UInt8), l.length ≤ n → (∃ b ∈ l, 128 ≤ b.toNat) → ∃ b ∈ mapD capR l, 128 ≤ b.toNat
  | _, [], _, ⟨b, hb, _⟩ => by cases hb
  | 0, b :: t, h, _ => by simp at h
  | n + 1, b :: t, h, ⟨x, hx, hh⟩ => by
    rw [mapD_step capR (b :: t) (by simp)]
    by_cases hb : b.toNat < 128
    · rw [decodeL_ascii b t hb]
      dsimp only
      rw [List.drop_succ_cons, List.drop_zero]
      have hxt : x ∈ t := by
        rcases List.mem_cons.1 hx with rfl | hx
        · omega
        · exact hx
      obtain ⟨y, hy, hyy⟩ := capD_high n t (by simpa using h) ⟨x, hxt, hh⟩
      exact ⟨y, List.mem_append.2 (.inr hy), hyy⟩
    · have hd := decode_high (t := t) (show 128 ≤ b.toNat by omega)
      have hc : capR ((decodeL (b :: t)).1 : Int) = ((decodeL (b :: t)).1 : Int) := by
        unfold capR
        rw [if_neg (by omega)]
      rw [hc, if_pos (by omega)]
      obtain ⟨y, hy, hyy⟩ := enc_high (r := ((decodeL (b :: t)).1 : Int)) (by omega)
      exact ⟨y, List.mem_append.2 (.inl hy), hyy⟩

/-- Is it this text of ASCII bytes, in capitals? -/
theorem cap_same (s : List UInt8) {t : List UInt8} (ht : ∀ b ∈ t, b.toNat < 128) : (mapD capR s == t) = (s.map capC == t) := by
  by_cases ha : ∀ b ∈ s, b.toNat < 128
  · rw [capD_ascii s ha]
  · have hx : ∃ b ∈ s, 128 ≤ b.toNat := by
      refine Classical.byContradiction fun hn => ha fun b hb => ?_
      refine Classical.byContradiction fun hc => hn ⟨b, hb, by omega⟩
    obtain ⟨y, hy, hyy⟩ := capD_high s.length s (Nat.le_refl _) hx
    obtain ⟨b, hb, hbb⟩ := hx
    have h1 : (mapD capR s == t) = false := by
      refine beq_false_of_ne fun e => ?_
      rw [e] at hy
      have := ht y hy
      omega
    have h2 : (s.map capC == t) = false := by
      refine beq_false_of_ne fun e => ?_
      have hm : capC b ∈ t := by rw [← e]; exact List.mem_map.2 ⟨b, hb, rfl⟩
      rw [capC_high hbb] at hm
      have := ht b hm
      omega
    rw [h1, h2]

end Go.Proofs.YtaopinmjgjpiiaaGreatDoor
