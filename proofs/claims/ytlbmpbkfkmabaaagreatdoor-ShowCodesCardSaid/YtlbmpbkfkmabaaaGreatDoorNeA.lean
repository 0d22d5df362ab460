/-
  The fraction nearest to 75 / 100 with a denominator up to 9 (closed): the states of its loop.
-/
import Derived.Test.YtlbmpbkfkmabaaaGreatDoorCcT
import Derived.Test.YtlbmpbkfkmabaaaGreatDoorEvM
namespace Go.Proofs.YtlbmpbkfkmabaaaGreatDoor
open Go Go.RowKit Ev

noncomputable abbrev XNe := bT1.cx 30
noncomputable def cNe : Code := loopAt Tryz.prog 83 0
def neS (i k : Nat) : Value := .agg ⟨[.bool false, .slice (some ⟨i, 0, some k⟩) 1 0]⟩
def neT (p q k : Int) (best : Value) (rows : Heap) (n : Nat) : St := ⟨only 64 [(0, neS 11 12), (1, neS 13 14), (2, .int .i64 9), (3, .pointer (some ⟨15, 0, none⟩)), (4, .pointer (some ⟨16, 0, none⟩)), (6, .int .i64 0), (7, .int .i64 0), (8, .int .i64 p), (9, .int .i64 q), (10, .pointer (some ⟨17, 0, none⟩)), (11, .int .i64 k)],
  (17, .cells [.bool false, best] 116) :: rows ++ [(16, .cells [.bool false, .slice (some ⟨13, 0, some 14⟩) 1 0] 116), (15, .cells [.bool false, .slice (some ⟨11, 0, some 12⟩) 1 0] 116), (11, .ints .u64 [75]), (13, .ints .u64 [100])], n, [], [], 0, none, [], 15⟩
def neU (p q k : Int) (len : Nat) (x : Int) : St := neT p q k (.slice (some ⟨18, 0, none⟩) len 1) [(18, .cells [.int .u64 x] 134)] 19
/-- Ahead of each round. -/
def neR : Nat → St
  | 0 => neT 0 0 1 (.slice none 0 0) [] 18
  | 1 => neU 1 1 2 1 25
  | 2 => neU 1 1 3 1 25
  | 3 => neU 2 3 4 1 25
  | n + 4 => neU 3 4 (n + 5) 0 0

end Go.Proofs.YtlbmpbkfkmabaaaGreatDoor
