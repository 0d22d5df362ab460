/-
  NumberBegins as a contract: both Prefixes of any text answer alike.
-/
import Derived.Test.YtaopinmjgjpiiaaGreatDoorNcCF
import Derived.Test.YtaopinmjgjpiiaaGreatDoorCz
namespace Go.Proofs.YtaopinmjgjpiiaaGreatDoor
open Go Go.RowKit Ev

def specPx : List Value → Option (Value × List Prop)
  | [.string ⟨⟨t⟩⟩] => some (.int .i64 (bareN t), [t.length ≤ 140737488351232])
  | _ => none
theorem specPx_ok1 (args : List Value) (v : Value) (l : List Prop) (h : specPx args = some (v, l)) (hl : allP l) : Ev.Pure Tryz.prog J0 8 args v := by
  unfold specPx at h
  split at h
  · cases h; exact prefix_pure hl.1
  · cases h
theorem specPx_ok2 (args : List Value) (v : Value) (l : List Prop) (h : specPx args = some (v, l)) (hl : allP l) : Ev.Pure Tryz.prog J0 9 args v := by
  unfold specPx at h
  split at h
  · cases h
    refine prefix2_pure ?_
    have := hl.1
    omega
  · cases h
noncomputable def tabNcL : Tab := tabAdd 8 specPx (tabAdd 9 specPx (tabAdd 7 (atS [([], .bool true)]) tabN0))
theorem tabNcL_ok : PcOk Tryz.prog J0 tabNcL := tabAdd_ok specPx_ok1 (tabAdd_ok specPx_ok2 (tabAdd_ok (atS_ok (fun p hp => by simp only [List.mem_cons, List.not_mem_nil, or_false] at hp; subst hp; exact awake5)) tabN0_ok))
noncomputable def bNcL : Base := ⟨Tryz.prog, J0, false, tabNcL, mtab0, 2000, xtN0⟩
theorem bNcL_ok : BaseOk bNcL := ⟨progOk, tabNcL_ok, mtab0_ok _ _, xtN0_ok⟩
theorem nb_way (t : List UInt8) : pureCall (bNcL.cx 12) [] 200 3 [.string ⟨⟨t⟩⟩] [] = some (.bool (((bareN t : Nat) : Int) == ((bareN t : Nat) : Int)), [condP [(1, true)] [(1, true)] → t.length ≤ 140737488351232, t.length ≤ 140737488351232]) := by kernel_rfl
/-- The law answers true. -/
theorem numberBegins_pure (t : List UInt8) (hl : t.length ≤ 140737488351232) : Ev.Pure Tryz.prog J0 3 [.string ⟨⟨t⟩⟩] (.bool true) := by
  have := pureN bNcL_ok (nb_way t) ⟨fun _ => hl, hl, trivial⟩
  rw [beq_self_eq_true] at this
  exact this

end Go.Proofs.YtaopinmjgjpiiaaGreatDoor
