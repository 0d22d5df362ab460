/-
  Layer 10 (addr): AddrTexts answers true.
-/
import Derived.Test.YthclpocignpfhaaDoorAdZb
namespace Go.Proofs.YthclpocignpfhaaDoor
open Go Go.RowKit Ev AdS

def t1 (s : List UInt8) : Bool := (parseS s).c == (parseS s).c && ((parseS s).r == (parseS s).r && true) && ((parseS s).p == (parseS s).p && ((parseS s).q == (parseS s).q && true))
def t2 (s : List UInt8) : Bool := (true && t1 s) && (parseS s).e == (parseS s).e
def t3 (s : List UInt8) : Bool := t2 s && ((pareaA s).c == (pareaA s).c && ((pareaA s).r == (pareaA s).r && true) && ((pareaA s).d == (pareaA s).d && ((pareaA s).s == (pareaA s).s && true) && true))
def t4 (s : List UInt8) : Bool := t3 s && (pareaA s).e == (pareaA s).e
def t5 (s : List UInt8) : Bool := t4 s && ((preS s : Int) == (preS s : Int))

theorem t5_true (s : List UInt8) : t5 s = true := by simp [t5, t4, t3, t2, t1]

def obT (s : List UInt8) : Prop := condP [(21, t4 s), (16, t3 s), (11, t2 s), (6, (true && t1 s)), (1, true)] [(21, true)] → s.length ≤ 9223372036854775807

theorem addrTexts_list (s : List UInt8) (hs : s.length ≤ 9223372036854775807) : Pure Tryd.prog J0 3 [.string ⟨⟨s⟩⟩] (.bool true) := by
  have key : Pure Tryd.prog J0 3 [.string ⟨⟨s⟩⟩] (.bool (t5 s)) :=
    pure_of bZ3_ok 10 [] [] (l := [obT s, obT s, s.length ≤ 9223372036854775807, s.length ≤ 9223372036854775807, s.length ≤ 9223372036854775807]) (by kernel_rfl) ⟨fun _ => hs, fun _ => hs, hs, hs, hs, trivial⟩
  rw [t5_true] at key
  exact key

theorem addrTexts_pure (s : ByteArray) (hs : s.size ≤ maxLen) : Pure Tryd.prog J0 3 [.string s] (.bool true) := by
  obtain ⟨⟨l⟩⟩ := s
  have h : l.length ≤ maxLen := hs
  exact addrTexts_list l (Nat.le_trans h (by decide))

end Go.Proofs.YthclpocignpfhaaDoor
