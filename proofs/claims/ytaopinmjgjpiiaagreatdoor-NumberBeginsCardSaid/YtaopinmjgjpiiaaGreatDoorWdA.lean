/-
  Whole numbers in words: lists of digits to a base, the lowest first. Plain laws; nothing of the program stands here.
-/
import Init
namespace Go.Proofs.YtaopinmjgjpiiaaGreatDoor.Wd

/-- What a list of digits is worth. -/
def val (b : Nat) : List Int → Nat
  | [] => 0
  | x :: r => x.toNat + b * val b r

/-- All are digits. -/
def Dg (b : Nat) (l : List Int) : Prop := ∀ x ∈ l, 0 ≤ x ∧ x < (b : Int)

theorem Dg.nil (b : Nat) : Dg b [] := fun _ h => by cases h
theorem Dg.cons {b : Nat} {x : Int} {l : List Int} (h : 0 ≤ x ∧ x < (b : Int)) (k : Dg b l) : Dg b (x :: l) := by
  intro y hy
  rcases List.mem_cons.1 hy with rfl | hy
  · exact h
  · exact k y hy
theorem Dg.head {b : Nat} {x : Int} {l : List Int} (h : Dg b (x :: l)) : 0 ≤ x ∧ x < (b : Int) := h x (List.mem_cons_self ..)
theorem Dg.tail {b : Nat} {x : Int} {l : List Int} (h : Dg b (x :: l)) : Dg b l := fun y hy => h y (List.mem_cons_of_mem _ hy)
theorem Dg.get {b : Nat} (hb : 0 < b) {l : List Int} (h : Dg b l) (i : Nat) : 0 ≤ l.getD i 0 ∧ l.getD i 0 < (b : Int) := by
  rw [List.getD_eq_getElem?_getD]
  cases e : l[i]? with
  | none => simp; omega
  | some x => simpa using h x (List.mem_of_getElem? e)
theorem Dg.set {b : Nat} {l : List Int} (h : Dg b l) {x : Int} (hx : 0 ≤ x ∧ x < (b : Int)) (i : Nat) : Dg b (l.set i x) := by
  intro y hy
  rcases List.mem_or_eq_of_mem_set hy with hy | rfl
  · exact h y hy
  · exact hx
theorem Dg.append {b : Nat} {l m : List Int} (h : Dg b l) (k : Dg b m) : Dg b (l ++ m) := by
  intro y hy
  rcases List.mem_append.1 hy with hy | hy
  · exact h y hy
  · exact k y hy
theorem Dg.take {b : Nat} {l : List Int} (h : Dg b l) (i : Nat) : Dg b (l.take i) := fun y hy => h y (List.mem_of_mem_take hy)
theorem Dg.drop {b : Nat} {l : List Int} (h : Dg b l) (i : Nat) : Dg b (l.drop i) := fun y hy => h y (List.mem_of_mem_drop hy)
theorem Dg.zeros (b : Nat) (hb : 0 < b) (n : Nat) : Dg b (List.replicate n 0) := by
  intro y hy
  have := List.eq_of_mem_replicate hy
  subst this
  omega

theorem val_append (b : Nat) : ∀ l m : List Int, val b (l ++ m) = val b l + b ^ l.length * val b m
  | [], m => by simp [val]
  | x :: l, m => by
    simp only [List.cons_append, val, val_append b l m, List.length_cons, Nat.pow_succ]
    rw [Nat.mul_add, ← Nat.mul_assoc, Nat.mul_comm b (b ^ l.length)]
    omega

theorem val_zeros (b : Nat) : ∀ n, val b (List.replicate n 0) = 0
  | 0 => rfl
  | n + 1 => by simp [List.replicate_succ, val, val_zeros b n]

theorem val_lt {b : Nat} (hb : 0 < b) : ∀ {l : List Int}, Dg b l → val b l < b ^ l.length
  | [], _ => by simp [val]
  | x :: l, h => by
    have h1 := h.head
    have h2 := val_lt hb h.tail
    simp only [val, List.length_cons, Nat.pow_succ]
    have h3 : b * val b l + b ≤ b * b ^ l.length := by
      rw [← Nat.mul_succ]
      exact Nat.mul_le_mul_left b h2
    rw [Nat.mul_comm (b ^ l.length) b]
    omega

theorem val_inj {b : Nat} (hb : 0 < b) : ∀ {l m : List Int}, Dg b l → Dg b m → l.length = m.length → val b l = val b m → l = m
  | [], [], _, _, _, _ => rfl
  | [], _ :: _, _, _, h, _ => by simp at h
  | _ :: _, [], _, _, h, _ => by simp at h
  | x :: l, y :: m, hl, hm, hn, hv => by
    have h1 := hl.head
    have h2 := hm.head
    simp only [val] at hv
    have e1 : (x.toNat + b * val b l) % b = x.toNat := by rw [Nat.add_mul_mod_self_left]; exact Nat.mod_eq_of_lt (by omega)
    have e2 : (y.toNat + b * val b m) % b = y.toNat := by rw [Nat.add_mul_mod_self_left]; exact Nat.mod_eq_of_lt (by omega)
    have e : x.toNat = y.toNat := by rw [← e1, ← e2, hv]
    have hv2 : b * val b l = b * val b m := by omega
    have := val_inj hb hl.tail hm.tail (by simpa using hn) (Nat.eq_of_mul_eq_mul_left hb hv2)
    subst this
    congr 1
    omega

/-- The digit in a place. -/
def dig (b m i : Nat) : Nat := m / b ^ i % b

theorem dig_lt {b : Nat} (hb : 0 < b) (m i : Nat) : dig b m i < b := Nat.mod_lt _ hb

theorem getD_dig {b : Nat} (hb : 0 < b) : ∀ {l : List Int}, Dg b l → ∀ i, l.getD i 0 = (dig b (val b l) i : Int)
  | [], _, i => by simp [dig, val]
  | x :: l, h, 0 => by
    have h1 := h.head
    simp only [List.getD_cons_zero, dig, val, Nat.pow_zero, Nat.div_one, Nat.add_mul_mod_self_left]
    rw [Nat.mod_eq_of_lt (by omega)]
    omega
  | x :: l, h, i + 1 => by
    have h1 := h.head
    rw [List.getD_cons_succ, getD_dig hb h.tail i]
    simp only [dig, val]
    rw [Nat.pow_succ, Nat.mul_comm (b ^ i) b, ← Nat.div_div_eq_div_mul, Nat.add_mul_div_left _ _ hb, Nat.div_eq_of_lt (show x.toNat < b by omega), Nat.zero_add]

/-- So many digits. -/
def dl (b : Nat) : Nat → Nat → List Int
  | 0, _ => []
  | n + 1, m => ((m % b : Nat) : Int) :: dl b n (m / b)

theorem dl_length (b : Nat) : ∀ n m, (dl b n m).length = n
  | 0, _ => rfl
  | n + 1, m => by simp [dl, dl_length b n]
theorem dl_dg {b : Nat} (hb : 0 < b) : ∀ n m, Dg b (dl b n m)
  | 0, _ => Dg.nil b
  | n + 1, m => Dg.cons (by have := Nat.mod_lt m hb; omega) (dl_dg hb n _)
theorem dl_val (b : Nat) : ∀ n m, val b (dl b n m) = m % b ^ n
  | 0, m => by simp [dl, val, Nat.mod_one]
  | n + 1, m => by
    simp only [dl, val, dl_val b n]
    rw [Nat.pow_succ, Nat.mul_comm (b ^ n) b, Nat.mod_mul, Int.toNat_natCast]
theorem dl_eq {b : Nat} (hb : 0 < b) {l : List Int} (h : Dg b l) {n m : Nat} (hn : l.length = n) (hm : val b l = m) : l = dl b n m := by
  subst hn hm
  exact val_inj hb h (dl_dg hb _ _) (dl_length b _ _).symm (by rw [dl_val, Nat.mod_eq_of_lt (val_lt hb h)])

theorem val_set {b : Nat} : ∀ {l : List Int} {i : Nat} (x : Int), i < l.length → val b (l.set i x) + (l.getD i 0).toNat * b ^ i = val b l + x.toNat * b ^ i
  | [], _, _, h => by simp at h
  | y :: l, 0, x, _ => by simp [val]; omega
  | y :: l, i + 1, x, h => by
    have ih := val_set (b := b) (l := l) (i := i) x (by simpa using h)
    simp only [List.set_cons_succ, val, List.getD_cons_succ, Nat.pow_succ]
    have h1 : b * val b (l.set i x) + b * ((l.getD i 0).toNat * b ^ i) = b * val b l + b * (x.toNat * b ^ i) := by rw [← Nat.mul_add, ← Nat.mul_add, ih]
    have h2 : (l.getD i 0).toNat * (b ^ i * b) = b * ((l.getD i 0).toNat * b ^ i) := by rw [Nat.mul_comm b, Nat.mul_assoc]
    have h3 : x.toNat * (b ^ i * b) = b * (x.toNat * b ^ i) := by rw [Nat.mul_comm b, Nat.mul_assoc]
    omega

theorem val_take_drop (b : Nat) (l : List Int) (i : Nat) (h : i ≤ l.length) : val b l = val b (l.take i) + b ^ i * val b (l.drop i) := by
  have := val_append b (l.take i) (l.drop i)
  rw [List.take_append_drop, List.length_take, Nat.min_eq_left h] at this
  exact this

/-- Digits up to a place, and one more. -/
theorem mod_dig (b m i : Nat) : m % b ^ (i + 1) = m % b ^ i + dig b m i * b ^ i := by
  rw [Nat.pow_succ, Nat.mod_mul]
  unfold dig
  rw [Nat.mul_comm (b ^ i)]

theorem div_dig {b : Nat} (m i : Nat) : m / b ^ i = dig b m i + b * (m / b ^ (i + 1)) := by
  unfold dig
  rw [Nat.pow_succ, ← Nat.div_div_eq_div_mul]
  exact (Nat.mod_add_div _ _).symm

/-- The words of a number: none of them 0 at the end. -/
def wsF (b : Nat) : Nat → Nat → List Int
  | 0, _ => []
  | f + 1, m => match m with
    | 0 => []
    | m + 1 => (((m + 1) % b : Nat) : Int) :: wsF b f ((m + 1) / b)
def ws (b m : Nat) : List Int := wsF b m m

theorem wsF_more {b : Nat} (hb : 2 ≤ b) : ∀ f m, m ≤ f → ∀ g, m ≤ g → wsF b f m = wsF b g m := by
  intro f
  induction f with
  | zero =>
    intro m hm g _
    obtain rfl : m = 0 := by omega
    cases g <;> rfl
  | succ f ih =>
    intro m hm g hg
    cases m with
    | zero => cases g <;> rfl
    | succ m =>
      cases g with
      | zero => omega
      | succ g =>
        have hlt : (m + 1) / b < m + 1 := Nat.div_lt_self (by omega) hb
        simp only [wsF]
        rw [ih _ (by omega) g (by omega)]

theorem ws_zero (b : Nat) : ws b 0 = [] := rfl
theorem ws_pos {b : Nat} (hb : 2 ≤ b) {m : Nat} (hm : 0 < m) : ws b m = ((m % b : Nat) : Int) :: ws b (m / b) := by
  cases m with
  | zero => omega
  | succ m =>
    have hlt : (m + 1) / b < m + 1 := Nat.div_lt_self (by omega) hb
    unfold ws
    conv => lhs; unfold wsF
    simp only
    rw [wsF_more hb m _ (by omega) ((m + 1) / b) (Nat.le_refl _)]

theorem ws_dg {b : Nat} (hb : 2 ≤ b) (m : Nat) : Dg b (ws b m) := by
  induction m using Nat.strongRecOn with
  | ind m ih =>
    by_cases hm : m = 0
    · subst hm; exact Dg.nil b
    · rw [ws_pos hb (by omega)]
      exact Dg.cons (by have := Nat.mod_lt m (show 0 < b by omega); omega) (ih _ (Nat.div_lt_self (by omega) hb))
theorem ws_val {b : Nat} (hb : 2 ≤ b) (m : Nat) : val b (ws b m) = m := by
  induction m using Nat.strongRecOn with
  | ind m ih =>
    by_cases hm : m = 0
    · subst hm; rfl
    · rw [ws_pos hb (by omega)]
      simp only [val]
      rw [ih _ (Nat.div_lt_self (by omega) hb)]
      have := Nat.mod_add_div m b
      omega

/-- No 0 at the end. -/
def Canon (l : List Int) : Prop := ∀ x, l.getLast? = some x → x ≠ 0

theorem ws_canon {b : Nat} (hb : 2 ≤ b) (m : Nat) : Canon (ws b m) := by
  induction m using Nat.strongRecOn with
  | ind m ih =>
    by_cases hm : m = 0
    · subst hm; intro x hx; cases hx
    · rw [ws_pos hb (by omega)]
      intro x hx
      have ih := ih (m / b) (Nat.div_lt_self (by omega) hb)
      by_cases hz : m / b = 0
      · rw [hz, ws_zero] at hx
        simp only [List.getLast?_singleton, Option.some.injEq] at hx
        have := Nat.mod_add_div m b
        rw [hz] at this
        omega
      · rw [ws_pos hb (Nat.pos_of_ne_zero hz)] at hx ih
        rw [List.getLast?_cons_cons] at hx
        exact ih x hx

theorem ws_eq {b : Nat} (hb : 2 ≤ b) : ∀ {l : List Int}, Dg b l → Canon l → l = ws b (val b l)
  | [], _, _ => rfl
  | x :: l, h, hc => by
    have h1 := h.head
    have hct : Canon l := by
      intro y hy
      cases l with
      | nil => cases hy
      | cons z l => exact hc y (by rw [List.getLast?_cons_cons]; exact hy)
    have ih := ws_eq hb h.tail hct
    have hpos : 0 < val b (x :: l) := by
      simp only [val]
      cases l with
      | nil =>
        have := hc x rfl
        simp [val]
        omega
      | cons z l =>
        have : 0 < val b (z :: l) := by
          rcases Nat.eq_zero_or_pos (val b (z :: l)) with h0 | h0
          · rw [h0] at ih; cases ih
          · exact h0
        have := Nat.mul_pos (show 0 < b by omega) this
        omega
    rw [ws_pos hb hpos]
    simp only [val]
    rw [Nat.add_mul_mod_self_left, Nat.mod_eq_of_lt (by omega), Nat.add_mul_div_left _ _ (by omega), Nat.div_eq_of_lt (by omega), Nat.zero_add, ← ih]
    congr 1
    omega

/-- How many. -/
theorem ws_length_le {b : Nat} (hb : 2 ≤ b) (m n : Nat) : (ws b m).length ≤ n ↔ m < b ^ n := by
  constructor
  · intro h
    have h1 := val_lt (by omega) (ws_dg hb m)
    rw [ws_val hb] at h1
    exact Nat.lt_of_lt_of_le h1 (Nat.pow_le_pow_right (by omega) h)
  · induction n generalizing m with
    | zero =>
      intro h
      obtain rfl : m = 0 := by simpa using h
      simp [ws_zero]
    | succ n ih =>
      intro h
      by_cases hm : m = 0
      · subst hm; simp [ws_zero]
      · rw [ws_pos hb (by omega), List.length_cons]
        have : m / b < b ^ n := by
          rw [Nat.div_lt_iff_lt_mul (by omega), ← Nat.pow_succ]
          exact h
        have := ih _ this
        omega

theorem ws_length_lt {b : Nat} (hb : 2 ≤ b) {m n : Nat} : n < (ws b m).length ↔ b ^ n ≤ m := by
  have := ws_length_le hb m n
  omega

theorem ws_nil {b : Nat} (hb : 2 ≤ b) {m : Nat} : (ws b m).length = 0 ↔ m = 0 := by
  have := ws_length_le hb m 0
  simp only [Nat.pow_zero] at this
  omega

theorem ws_getD {b : Nat} (hb : 2 ≤ b) (m i : Nat) : (ws b m).getD i 0 = (dig b m i : Int) := by
  rw [getD_dig (by omega) (ws_dg hb m), ws_val hb]

/-- Noughts at the end are left out. -/
def trimW (l : List Int) : List Int := (l.reverse.dropWhile (· == 0)).reverse

theorem trimW_snoc (l : List Int) (x : Int) : trimW (l ++ [x]) = if x = 0 then trimW l else l ++ [x] := by
  unfold trimW
  rw [List.reverse_append]
  simp only [List.reverse_cons, List.reverse_nil, List.nil_append, List.singleton_append]
  rw [List.dropWhile_cons]
  by_cases h : x = 0
  · subst h; simp
  · have : (x == 0) = false := by simpa using h
    simp [this, h]

theorem val_snoc_zero (b : Nat) (l : List Int) : val b (l ++ [0]) = val b l := by rw [val_append]; simp [val]

theorem trimW_ws {b : Nat} (hb : 2 ≤ b) {l : List Int} (h : Dg b l) : trimW l = ws b (val b l) := by
  induction hn : l.length generalizing l with
  | zero =>
    have := List.eq_nil_of_length_eq_zero hn
    subst this
    rfl
  | succ n ih =>
    have hne : l ≠ [] := by intro e; subst e; cases hn
    obtain ⟨m, x, rfl⟩ : ∃ m x, l = m ++ [x] := ⟨l.dropLast, l.getLast hne, (List.dropLast_concat_getLast hne).symm⟩
    rw [trimW_snoc]
    split
    · rename_i hx
      subst hx
      rw [val_snoc_zero]
      exact ih (fun y hy => h y (List.mem_append_left _ hy)) (by simp at hn; omega)
    · rename_i hx
      refine ws_eq hb h fun y hy => ?_
      simp at hy
      omega

end Go.Proofs.YtaopinmjgjpiiaaGreatDoor.Wd
