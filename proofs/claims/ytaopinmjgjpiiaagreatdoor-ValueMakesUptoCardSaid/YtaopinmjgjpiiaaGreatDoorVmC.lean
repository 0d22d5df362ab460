/-
  The document's Capital of any text, as a contract: byte by byte.
-/
import Derived.Test.YtaopinmjgjpiiaaGreatDoorNbA
import Derived.Test.YtaopinmjgjpiiaaGreatDoorVmA
import Derived.Test.YtaopinmjgjpiiaaGreatDoorEvM
namespace Go.Proofs.YtaopinmjgjpiiaaGreatDoor
open Go Go.RowKit Ev

noncomputable abbrev XVm := bKn.cx 12
noncomputable def cCp : Code := loopAt Tryz.prog 72 0
noncomputable def tCp (ns : List Int) (m : Nat) (i : Int) : St := ⟨only 35 [(3, .slice (some ⟨11, 0, some 12⟩) m 0), (4, .int .i64 i), (6, .slice (some ⟨11, 0, some 12⟩) m 0)], [(11, .row 5 1 (.ints .u8 ns) 12)] ++ J0.tabs, 13, [], [], 0, none, [], 11⟩
def cpG (ns : List Int) (i : Int) : Int := ns.getD (addO 0 i.toNat) (Int.ofNat 0)
def cpB (ns : List Int) (i : Int) : Bool := match decide (cpG ns i ≥ 97) with | true => decide (cpG ns i ≤ 122) | false => false
def cpI (ns : List Int) (i : Int) : Prop := addO 0 i.toNat < ns.length
def cpJ (ns : List Int) (m : Nat) (i : Int) : Prop := (Int.ofNat 0 ≤ i ∧ i < Int.ofNat m) ∧ 0 < ns.length
def cpC1 (ns : List Int) (i : Int) : Prop := condP [(5, decide (cpG ns i ≥ 97))] [(5, true)] → cpI ns i
def cpC2 (ns : List Int) (m : Nat) (i : Int) : Prop := condP [(5, decide (cpG ns i ≥ 97))] [(5, true)] → cpJ ns m i
noncomputable def cpS (ns : List Int) (i : Int) : List Int := setF ns (addO 0 i.toNat) (IntKind.u8.wrap (cpG ns i - Int.ofNat 32))
section
variable (t : List UInt8) (ns : List Int) (m : Nat) (i : Int)
set_option maxRecDepth 100000 in
theorem cp_up (hl : allP [cpI ns i, cpJ ns m i, cpI ns i, cpJ ns m i, cpB ns i = true, cpC1 ns i, cpC2 ns m i, cpI ns i, cpJ ns m i, decide (i < Int.ofNat m) = true]) : Step XVm cCp (tCp ns m i) .normal (tCp (cpS ns i) m (IntKind.i64.wrap (i + 1))) :=
  step_of (Base.cx_ok bKn_ok 12).1 progOk.mixed [] 200 [true, true] [] (by kernel_rfl) hl (by kernel_rfl) (by kernel_rfl)
set_option maxRecDepth 100000 in
theorem cp_no (hl : allP [cpB ns i = false, cpC1 ns i, cpC2 ns m i, cpI ns i, cpJ ns m i, decide (i < Int.ofNat m) = true]) : Step XVm cCp (tCp ns m i) .normal (tCp ns m (IntKind.i64.wrap (i + 1))) :=
  step_of (Base.cx_ok bKn_ok 12).1 progOk.mixed [] 200 [true, false] [] (by kernel_rfl) hl (by kernel_rfl) (by kernel_rfl)
set_option maxRecDepth 100000 in
theorem cp_end (hl : allP [decide (i < Int.ofNat m) = false]) : Step XVm cCp (tCp ns m i) (.exit 0) (tCp ns m i) :=
  step_of (Base.cx_ok bKn_ok 12).1 progOk.mixed [] 200 [false] [] (by kernel_rfl) hl (by kernel_rfl) (by kernel_rfl)
def cCpTo (x : AX) (s : St) : Prop := LoopTo XVm cCp (startAt XVm 200 72 [.string ⟨⟨t⟩⟩] J0.tabs Tryz.prog.globals.size []) x s
set_option maxRecDepth 100000 in
theorem cp_way : pureCall XVm [told (.exit 0) (fun _ => tCp ns m i)] 200 72 [.string ⟨⟨t⟩⟩] [] = some (.string ⟨⟨ns.map (fun (n : Int) => UInt8.ofNat n.toNat)⟩⟩, [m = ns.length, cCpTo t (.exit 0) (tCp ns m i), t.length ≤ 9223372036854775807]) := by kernel_rfl
theorem cp_into {x : AX} {s' : St} (h : LoopTo XVm cCp (tCp (bytesI t) t.length ((0 : Nat) : Int)) x s') : cCpTo t x s' :=
  loop_into' h [] (by kernel_rfl) (by kernel_rfl) (by kernel_rfl)
end

/-- The text, so many of its bytes as capitals. -/
def capL (t : List UInt8) (i : Nat) : List UInt8 := (t.take i).map capC ++ t.drop i
theorem capL_len (t : List UInt8) (i : Nat) : (capL t i).length = t.length := by
  unfold capL
  rw [List.length_append, List.length_map, List.length_take, List.length_drop]
  omega
theorem capL_at {t : List UInt8} {i : Nat} (h : i < t.length) : capL t i = (t.take i).map capC ++ t.getD i 0 :: t.drop (i + 1) := by
  unfold capL
  rw [List.drop_eq_getElem_cons h]
  simp [List.getD, List.getElem?_eq_getElem h]
theorem capL_next {t : List UInt8} {i : Nat} (h : i < t.length) : capL t (i + 1) = (t.take i).map capC ++ capC (t.getD i 0) :: t.drop (i + 1) := by
  have hg : t.getD i 0 = t[i] := by simp [List.getD, List.getElem?_eq_getElem h]
  unfold capL
  rw [List.take_add_one, List.getElem?_eq_getElem h, hg, List.map_append, List.append_assoc]
  rfl
theorem at_mid (a : List UInt8) (x : UInt8) (b : List UInt8) : ((a ++ x :: b).map fun c => Int.ofNat c.toNat).getD a.length 0 = Int.ofNat x.toNat := by
  simp [List.getD]
theorem cpG_eq {t : List UInt8} {i : Nat} (h : i < t.length) : cpG (bytesI (capL t i)) (i : Int) = ((t.getD i 0).toNat : Int) := by
  unfold cpG
  rw [addO_eq, Nat.zero_add, Int.toNat_natCast, bytesI_eq, capL_at h]
  have hl : ((t.take i).map capC).length = i := by rw [List.length_map, List.length_take]; omega
  have := at_mid ((t.take i).map capC) (t.getD i 0) (t.drop (i + 1))
  rw [hl] at this
  exact this
theorem u8_sub {c : UInt8} (h1 : 97 ≤ c.toNat) (h2 : c.toNat ≤ 122) : IntKind.u8.wrap ((c.toNat : Int) - Int.ofNat 32) = Int.ofNat (c - 32).toNat := by
  have hs : (c - 32).toNat = c.toNat - 32 := UInt8.toNat_sub_of_le _ _ (by rw [UInt8.le_iff_toNat_le]; show 32 ≤ _; omega)
  rw [hs, u8_id (by show 0 ≤ (c.toNat : Int) - 32; omega) (by show (c.toNat : Int) - 32 < 256; omega)]
  show (c.toNat : Int) - 32 = ((c.toNat - 32 : Nat) : Int)
  omega
theorem cpS_eq {t : List UInt8} {i : Nat} (h : i < t.length) (h1 : 97 ≤ (t.getD i 0).toNat) (h2 : (t.getD i 0).toNat ≤ 122) : cpS (bytesI (capL t i)) (i : Int) = bytesI (capL t (i + 1)) := by
  have hc : capC (t.getD i 0) = t.getD i 0 - 32 := by unfold capC; rw [if_pos ⟨h1, h2⟩]
  unfold cpS
  rw [cpG_eq h, setF_eq, addO_eq, Nat.zero_add, Int.toNat_natCast, bytesI_eq, bytesI_eq, capL_next h, capL_at h, hc]
  have hl : ((t.take i).map capC).length = i := by rw [List.length_map, List.length_take]; omega
  have hv := u8_sub h1 h2
  rw [hv, List.map_append, List.map_append, List.set_append_right _ _ (by rw [List.length_map, hl]; exact Nat.le_refl _), List.length_map, hl, Nat.sub_self, List.map_cons, List.set_cons_zero, List.map_cons]
theorem cp_step {t : List UInt8} (hl : t.length ≤ 9223372036854775806) (i : Nat) (h : i < t.length) : Step XVm cCp (tCp (bytesI (capL t i)) t.length (i : Int)) .normal (tCp (bytesI (capL t (i + 1))) t.length ((i + 1 : Nat) : Int)) := by
  have hlen : (bytesI (capL t i)).length = t.length := by rw [bytesI_eq, List.length_map, capL_len]
  have hI : cpI (bytesI (capL t i)) (i : Int) := by unfold cpI; rw [addO_eq, Nat.zero_add, Int.toNat_natCast, hlen]; exact h
  have hJ : cpJ (bytesI (capL t i)) t.length (i : Int) := ⟨⟨Int.natCast_nonneg _, Int.ofNat_lt.2 h⟩, by rw [hlen]; omega⟩
  have hd : decide ((i : Int) < Int.ofNat t.length) = true := decide_eq_true (Int.ofNat_lt.2 h)
  have e1 : IntKind.i64.wrap ((i : Int) + 1) = ((i + 1 : Nat) : Int) := by
    have := IntKind.wrap_i64 ((i : Int) + 1)
    omega
  by_cases hc : 97 ≤ (t.getD i 0).toNat ∧ (t.getD i 0).toNat ≤ 122
  · have hb : cpB (bytesI (capL t i)) (i : Int) = true := by
      unfold cpB
      rw [cpG_eq h, decide_eq_true (by omega)]
      exact decide_eq_true (by omega)
    have := cp_up (bytesI (capL t i)) t.length i ⟨hI, hJ, hI, hJ, hb, fun _ => hI, fun _ => hJ, hI, hJ, hd, trivial⟩
    rw [e1, cpS_eq h hc.1 hc.2] at this
    exact this
  · have hb : cpB (bytesI (capL t i)) (i : Int) = false := by
      unfold cpB
      rw [cpG_eq h]
      by_cases hx : 97 ≤ (t.getD i 0).toNat
      · rw [decide_eq_true (by omega)]
        exact decide_eq_false (by omega)
      · rw [decide_eq_false (by omega)]
    have hn : capL t (i + 1) = capL t i := by
      rw [capL_next h, capL_at h]
      unfold capC
      rw [if_neg hc]
    have := cp_no (bytesI (capL t i)) t.length i ⟨hb, fun _ => hI, fun _ => hJ, hI, hJ, hd, trivial⟩
    rw [e1] at this
    rw [hn]
    exact this
theorem Capital_pure {t : List UInt8} (hl : t.length ≤ 9223372036854775806) : Ev.Pure Tryz.prog J0 72 [.string ⟨⟨t⟩⟩] (.string ⟨⟨t.map capC⟩⟩) := by
  have h0 : capL t 0 = t := by simp [capL]
  have h1 : capL t t.length = t.map capC := by simp [capL]
  have hloop : LoopTo XVm cCp (tCp (bytesI (capL t 0)) t.length ((0 : Nat) : Int)) (.exit 0) (tCp (bytesI (capL t t.length)) t.length (t.length : Int)) :=
    loop_run (fun i => tCp (bytesI (capL t i)) t.length (i : Int)) t.length (by intro e; cases e) (cp_step hl) (cp_end _ _ _ ⟨decide_eq_false (Int.lt_irrefl _), trivial⟩)
  rw [h0] at hloop
  have := pureN bKn_ok (cp_way t (bytesI (capL t t.length)) t.length t.length) ⟨by rw [bytesI_eq, List.length_map, capL_len], cp_into t hloop, by omega, trivial⟩
  rw [bytesI_eq, List.map_map, h1] at this
  have e : (t.map capC).map ((fun (n : Int) => UInt8.ofNat n.toNat) ∘ fun b => Int.ofNat b.toNat) = t.map capC := by
    refine (List.map_congr_left (g := id) fun b _ => ?_).trans (List.map_id _)
    show UInt8.ofNat (Int.ofNat b.toNat).toNat = b
    simp
  rw [e] at this
  exact this

end Go.Proofs.YtaopinmjgjpiiaaGreatDoor
