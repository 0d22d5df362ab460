/-
  show.Read as a contract (printed by mkread.py).
-/
import Derived.Test.YtlbmpbkfkmabaaaGreatDoorShEI
namespace Go.Proofs.YtlbmpbkfkmabaaaGreatDoor
open Go Go.RowKit Ev Sh

noncomputable abbrev XSh4 := bSh4.cx 12

set_option maxRecDepth 100000 in
theorem rd_1t (r : List UInt8) : pureCall XSh4 [] 200 9 [.string ⟨⟨103 :: r⟩⟩] [false, true, false, true, true, true, false, true, false, true, false, true, false, false, true] = some (.tuple ⟨[.agg ⟨[.int .i64 0, .int .i64 0, .bool false, .int .i64 0]⟩, .int .i64 3]⟩,
  [(match codeE 1 (num (Lib.trimSuffix (Sh.ahead r) [44])) (!((Lib.trimSuffix (Sh.ahead r) [44]) == Sh.ahead r)) (num (Sh.behind r)) != 0 with | true => true | false => !(codeS 1 (num (Lib.trimSuffix (Sh.ahead r) [44])) (!((Lib.trimSuffix (Sh.ahead r) [44]) == Sh.ahead r)) (num (Sh.behind r)) == ((103 : UInt8) :: r))) = true, (Sh.behind r).length ≤ 281474976710656, (Lib.trimSuffix (Sh.ahead r) [44]).length ≤ 281474976710656, (Sh.ahead r).length ≤ 9223372036854775807, r.length ≤ 9223372036854775807, (0 : Int) ≤ 1 ∧ (1 : Int) ≤ ((r.length + 1 : Nat) : Int), false = false, false = false, condP [(2, true)] [(2, true)] → (0 : Int) ≤ 0 ∧ 0 < ((103 : UInt8) :: r).length, (0 : Int) ≤ 5 ∧ (5 : Int) < 6, true = true, false = false, condP [(2, true)] [(2, true)] → (0 : Int) ≤ 0 ∧ 0 < ((103 : UInt8) :: r).length, (0 : Int) ≤ 4 ∧ (4 : Int) < 6, true = true, false = false, condP [(2, true)] [(2, true)] → (0 : Int) ≤ 0 ∧ 0 < ((103 : UInt8) :: r).length, (0 : Int) ≤ 3 ∧ (3 : Int) < 6, true = true, false = false, condP [(2, true)] [(2, true)] → (0 : Int) ≤ 0 ∧ 0 < ((103 : UInt8) :: r).length, (0 : Int) ≤ 2 ∧ (2 : Int) < 6, true = true, true = true, condP [(2, true)] [(2, true)] → (0 : Int) ≤ 0 ∧ 0 < ((103 : UInt8) :: r).length, (0 : Int) ≤ 1 ∧ (1 : Int) < 6, true = true, false = false, condP [(2, false)] [(2, true)] → (0 : Int) ≤ 0 ∧ 0 < ((103 : UInt8) :: r).length, (0 : Int) ≤ 0 ∧ (0 : Int) < 6, true = true, false = false]) := by kernel_rfl

set_option maxRecDepth 100000 in
theorem rd_1f (r : List UInt8) : pureCall XSh4 [] 200 9 [.string ⟨⟨103 :: r⟩⟩] [false, true, false, true, true, true, false, true, false, true, false, true, false, false, false] = some (.tuple ⟨[.agg ⟨[.int .i64 1, .int .i64 (num (Lib.trimSuffix (Sh.ahead r) [44])), .bool (!((Lib.trimSuffix (Sh.ahead r) [44]) == Sh.ahead r)), .int .i64 (num (Sh.behind r))]⟩, .int .i64 0]⟩,
  [(match codeE 1 (num (Lib.trimSuffix (Sh.ahead r) [44])) (!((Lib.trimSuffix (Sh.ahead r) [44]) == Sh.ahead r)) (num (Sh.behind r)) != 0 with | true => true | false => !(codeS 1 (num (Lib.trimSuffix (Sh.ahead r) [44])) (!((Lib.trimSuffix (Sh.ahead r) [44]) == Sh.ahead r)) (num (Sh.behind r)) == ((103 : UInt8) :: r))) = false, (Sh.behind r).length ≤ 281474976710656, (Lib.trimSuffix (Sh.ahead r) [44]).length ≤ 281474976710656, (Sh.ahead r).length ≤ 9223372036854775807, r.length ≤ 9223372036854775807, (0 : Int) ≤ 1 ∧ (1 : Int) ≤ ((r.length + 1 : Nat) : Int), false = false, false = false, condP [(2, true)] [(2, true)] → (0 : Int) ≤ 0 ∧ 0 < ((103 : UInt8) :: r).length, (0 : Int) ≤ 5 ∧ (5 : Int) < 6, true = true, false = false, condP [(2, true)] [(2, true)] → (0 : Int) ≤ 0 ∧ 0 < ((103 : UInt8) :: r).length, (0 : Int) ≤ 4 ∧ (4 : Int) < 6, true = true, false = false, condP [(2, true)] [(2, true)] → (0 : Int) ≤ 0 ∧ 0 < ((103 : UInt8) :: r).length, (0 : Int) ≤ 3 ∧ (3 : Int) < 6, true = true, false = false, condP [(2, true)] [(2, true)] → (0 : Int) ≤ 0 ∧ 0 < ((103 : UInt8) :: r).length, (0 : Int) ≤ 2 ∧ (2 : Int) < 6, true = true, true = true, condP [(2, true)] [(2, true)] → (0 : Int) ≤ 0 ∧ 0 < ((103 : UInt8) :: r).length, (0 : Int) ≤ 1 ∧ (1 : Int) < 6, true = true, false = false, condP [(2, false)] [(2, true)] → (0 : Int) ≤ 0 ∧ 0 < ((103 : UInt8) :: r).length, (0 : Int) ≤ 0 ∧ (0 : Int) < 6, true = true, false = false]) := by kernel_rfl

set_option maxRecDepth 100000 in
theorem rd_2t (r : List UInt8) : pureCall XSh4 [] 200 9 [.string ⟨⟨102 :: r⟩⟩] [false, true, false, true, false, true, true, true, false, true, false, true, false, false, true] = some (.tuple ⟨[.agg ⟨[.int .i64 0, .int .i64 0, .bool false, .int .i64 0]⟩, .int .i64 3]⟩,
  [(match codeE 2 (num (Lib.trimSuffix (Sh.ahead r) [44])) (!((Lib.trimSuffix (Sh.ahead r) [44]) == Sh.ahead r)) (num (Sh.behind r)) != 0 with | true => true | false => !(codeS 2 (num (Lib.trimSuffix (Sh.ahead r) [44])) (!((Lib.trimSuffix (Sh.ahead r) [44]) == Sh.ahead r)) (num (Sh.behind r)) == ((102 : UInt8) :: r))) = true, (Sh.behind r).length ≤ 281474976710656, (Lib.trimSuffix (Sh.ahead r) [44]).length ≤ 281474976710656, (Sh.ahead r).length ≤ 9223372036854775807, r.length ≤ 9223372036854775807, (0 : Int) ≤ 1 ∧ (1 : Int) ≤ ((r.length + 1 : Nat) : Int), false = false, false = false, condP [(2, true)] [(2, true)] → (0 : Int) ≤ 0 ∧ 0 < ((102 : UInt8) :: r).length, (0 : Int) ≤ 5 ∧ (5 : Int) < 6, true = true, false = false, condP [(2, true)] [(2, true)] → (0 : Int) ≤ 0 ∧ 0 < ((102 : UInt8) :: r).length, (0 : Int) ≤ 4 ∧ (4 : Int) < 6, true = true, false = false, condP [(2, true)] [(2, true)] → (0 : Int) ≤ 0 ∧ 0 < ((102 : UInt8) :: r).length, (0 : Int) ≤ 3 ∧ (3 : Int) < 6, true = true, true = true, condP [(2, true)] [(2, true)] → (0 : Int) ≤ 0 ∧ 0 < ((102 : UInt8) :: r).length, (0 : Int) ≤ 2 ∧ (2 : Int) < 6, true = true, false = false, condP [(2, true)] [(2, true)] → (0 : Int) ≤ 0 ∧ 0 < ((102 : UInt8) :: r).length, (0 : Int) ≤ 1 ∧ (1 : Int) < 6, true = true, false = false, condP [(2, false)] [(2, true)] → (0 : Int) ≤ 0 ∧ 0 < ((102 : UInt8) :: r).length, (0 : Int) ≤ 0 ∧ (0 : Int) < 6, true = true, false = false]) := by kernel_rfl

set_option maxRecDepth 100000 in
theorem rd_2f (r : List UInt8) : pureCall XSh4 [] 200 9 [.string ⟨⟨102 :: r⟩⟩] [false, true, false, true, false, true, true, true, false, true, false, true, false, false, false] = some (.tuple ⟨[.agg ⟨[.int .i64 2, .int .i64 (num (Lib.trimSuffix (Sh.ahead r) [44])), .bool (!((Lib.trimSuffix (Sh.ahead r) [44]) == Sh.ahead r)), .int .i64 (num (Sh.behind r))]⟩, .int .i64 0]⟩,
  [(match codeE 2 (num (Lib.trimSuffix (Sh.ahead r) [44])) (!((Lib.trimSuffix (Sh.ahead r) [44]) == Sh.ahead r)) (num (Sh.behind r)) != 0 with | true => true | false => !(codeS 2 (num (Lib.trimSuffix (Sh.ahead r) [44])) (!((Lib.trimSuffix (Sh.ahead r) [44]) == Sh.ahead r)) (num (Sh.behind r)) == ((102 : UInt8) :: r))) = false, (Sh.behind r).length ≤ 281474976710656, (Lib.trimSuffix (Sh.ahead r) [44]).length ≤ 281474976710656, (Sh.ahead r).length ≤ 9223372036854775807, r.length ≤ 9223372036854775807, (0 : Int) ≤ 1 ∧ (1 : Int) ≤ ((r.length + 1 : Nat) : Int), false = false, false = false, condP [(2, true)] [(2, true)] → (0 : Int) ≤ 0 ∧ 0 < ((102 : UInt8) :: r).length, (0 : Int) ≤ 5 ∧ (5 : Int) < 6, true = true, false = false, condP [(2, true)] [(2, true)] → (0 : Int) ≤ 0 ∧ 0 < ((102 : UInt8) :: r).length, (0 : Int) ≤ 4 ∧ (4 : Int) < 6, true = true, false = false, condP [(2, true)] [(2, true)] → (0 : Int) ≤ 0 ∧ 0 < ((102 : UInt8) :: r).length, (0 : Int) ≤ 3 ∧ (3 : Int) < 6, true = true, true = true, condP [(2, true)] [(2, true)] → (0 : Int) ≤ 0 ∧ 0 < ((102 : UInt8) :: r).length, (0 : Int) ≤ 2 ∧ (2 : Int) < 6, true = true, false = false, condP [(2, true)] [(2, true)] → (0 : Int) ≤ 0 ∧ 0 < ((102 : UInt8) :: r).length, (0 : Int) ≤ 1 ∧ (1 : Int) < 6, true = true, false = false, condP [(2, false)] [(2, true)] → (0 : Int) ≤ 0 ∧ 0 < ((102 : UInt8) :: r).length, (0 : Int) ≤ 0 ∧ (0 : Int) < 6, true = true, false = false]) := by kernel_rfl

set_option maxRecDepth 100000 in
theorem rd_3t (r : List UInt8) : pureCall XSh4 [] 200 9 [.string ⟨⟨115 :: r⟩⟩] [false, true, false, true, false, true, false, true, true, true, false, true, false, false, true] = some (.tuple ⟨[.agg ⟨[.int .i64 0, .int .i64 0, .bool false, .int .i64 0]⟩, .int .i64 3]⟩,
  [(match codeE 3 (num (Lib.trimSuffix (Sh.ahead r) [44])) (!((Lib.trimSuffix (Sh.ahead r) [44]) == Sh.ahead r)) (num (Sh.behind r)) != 0 with | true => true | false => !(codeS 3 (num (Lib.trimSuffix (Sh.ahead r) [44])) (!((Lib.trimSuffix (Sh.ahead r) [44]) == Sh.ahead r)) (num (Sh.behind r)) == ((115 : UInt8) :: r))) = true, (Sh.behind r).length ≤ 281474976710656, (Lib.trimSuffix (Sh.ahead r) [44]).length ≤ 281474976710656, (Sh.ahead r).length ≤ 9223372036854775807, r.length ≤ 9223372036854775807, (0 : Int) ≤ 1 ∧ (1 : Int) ≤ ((r.length + 1 : Nat) : Int), false = false, false = false, condP [(2, true)] [(2, true)] → (0 : Int) ≤ 0 ∧ 0 < ((115 : UInt8) :: r).length, (0 : Int) ≤ 5 ∧ (5 : Int) < 6, true = true, false = false, condP [(2, true)] [(2, true)] → (0 : Int) ≤ 0 ∧ 0 < ((115 : UInt8) :: r).length, (0 : Int) ≤ 4 ∧ (4 : Int) < 6, true = true, true = true, condP [(2, true)] [(2, true)] → (0 : Int) ≤ 0 ∧ 0 < ((115 : UInt8) :: r).length, (0 : Int) ≤ 3 ∧ (3 : Int) < 6, true = true, false = false, condP [(2, true)] [(2, true)] → (0 : Int) ≤ 0 ∧ 0 < ((115 : UInt8) :: r).length, (0 : Int) ≤ 2 ∧ (2 : Int) < 6, true = true, false = false, condP [(2, true)] [(2, true)] → (0 : Int) ≤ 0 ∧ 0 < ((115 : UInt8) :: r).length, (0 : Int) ≤ 1 ∧ (1 : Int) < 6, true = true, false = false, condP [(2, false)] [(2, true)] → (0 : Int) ≤ 0 ∧ 0 < ((115 : UInt8) :: r).length, (0 : Int) ≤ 0 ∧ (0 : Int) < 6, true = true, false = false]) := by kernel_rfl

set_option maxRecDepth 100000 in
theorem rd_3f (r : List UInt8) : pureCall XSh4 [] 200 9 [.string ⟨⟨115 :: r⟩⟩] [false, true, false, true, false, true, false, true, true, true, false, true, false, false, false] = some (.tuple ⟨[.agg ⟨[.int .i64 3, .int .i64 (num (Lib.trimSuffix (Sh.ahead r) [44])), .bool (!((Lib.trimSuffix (Sh.ahead r) [44]) == Sh.ahead r)), .int .i64 (num (Sh.behind r))]⟩, .int .i64 0]⟩,
  [(match codeE 3 (num (Lib.trimSuffix (Sh.ahead r) [44])) (!((Lib.trimSuffix (Sh.ahead r) [44]) == Sh.ahead r)) (num (Sh.behind r)) != 0 with | true => true | false => !(codeS 3 (num (Lib.trimSuffix (Sh.ahead r) [44])) (!((Lib.trimSuffix (Sh.ahead r) [44]) == Sh.ahead r)) (num (Sh.behind r)) == ((115 : UInt8) :: r))) = false, (Sh.behind r).length ≤ 281474976710656, (Lib.trimSuffix (Sh.ahead r) [44]).length ≤ 281474976710656, (Sh.ahead r).length ≤ 9223372036854775807, r.length ≤ 9223372036854775807, (0 : Int) ≤ 1 ∧ (1 : Int) ≤ ((r.length + 1 : Nat) : Int), false = false, false = false, condP [(2, true)] [(2, true)] → (0 : Int) ≤ 0 ∧ 0 < ((115 : UInt8) :: r).length, (0 : Int) ≤ 5 ∧ (5 : Int) < 6, true = true, false = false, condP [(2, true)] [(2, true)] → (0 : Int) ≤ 0 ∧ 0 < ((115 : UInt8) :: r).length, (0 : Int) ≤ 4 ∧ (4 : Int) < 6, true = true, true = true, condP [(2, true)] [(2, true)] → (0 : Int) ≤ 0 ∧ 0 < ((115 : UInt8) :: r).length, (0 : Int) ≤ 3 ∧ (3 : Int) < 6, true = true, false = false, condP [(2, true)] [(2, true)] → (0 : Int) ≤ 0 ∧ 0 < ((115 : UInt8) :: r).length, (0 : Int) ≤ 2 ∧ (2 : Int) < 6, true = true, false = false, condP [(2, true)] [(2, true)] → (0 : Int) ≤ 0 ∧ 0 < ((115 : UInt8) :: r).length, (0 : Int) ≤ 1 ∧ (1 : Int) < 6, true = true, false = false, condP [(2, false)] [(2, true)] → (0 : Int) ≤ 0 ∧ 0 < ((115 : UInt8) :: r).length, (0 : Int) ≤ 0 ∧ (0 : Int) < 6, true = true, false = false]) := by kernel_rfl

set_option maxRecDepth 100000 in
theorem rd_4t (r : List UInt8) : pureCall XSh4 [] 200 9 [.string ⟨⟨112 :: r⟩⟩] [false, true, false, true, false, true, false, true, false, true, true, true, false, false, true] = some (.tuple ⟨[.agg ⟨[.int .i64 0, .int .i64 0, .bool false, .int .i64 0]⟩, .int .i64 3]⟩,
  [(match codeE 4 (num (Lib.trimSuffix (Sh.ahead r) [44])) (!((Lib.trimSuffix (Sh.ahead r) [44]) == Sh.ahead r)) (num (Sh.behind r)) != 0 with | true => true | false => !(codeS 4 (num (Lib.trimSuffix (Sh.ahead r) [44])) (!((Lib.trimSuffix (Sh.ahead r) [44]) == Sh.ahead r)) (num (Sh.behind r)) == ((112 : UInt8) :: r))) = true, (Sh.behind r).length ≤ 281474976710656, (Lib.trimSuffix (Sh.ahead r) [44]).length ≤ 281474976710656, (Sh.ahead r).length ≤ 9223372036854775807, r.length ≤ 9223372036854775807, (0 : Int) ≤ 1 ∧ (1 : Int) ≤ ((r.length + 1 : Nat) : Int), false = false, false = false, condP [(2, true)] [(2, true)] → (0 : Int) ≤ 0 ∧ 0 < ((112 : UInt8) :: r).length, (0 : Int) ≤ 5 ∧ (5 : Int) < 6, true = true, true = true, condP [(2, true)] [(2, true)] → (0 : Int) ≤ 0 ∧ 0 < ((112 : UInt8) :: r).length, (0 : Int) ≤ 4 ∧ (4 : Int) < 6, true = true, false = false, condP [(2, true)] [(2, true)] → (0 : Int) ≤ 0 ∧ 0 < ((112 : UInt8) :: r).length, (0 : Int) ≤ 3 ∧ (3 : Int) < 6, true = true, false = false, condP [(2, true)] [(2, true)] → (0 : Int) ≤ 0 ∧ 0 < ((112 : UInt8) :: r).length, (0 : Int) ≤ 2 ∧ (2 : Int) < 6, true = true, false = false, condP [(2, true)] [(2, true)] → (0 : Int) ≤ 0 ∧ 0 < ((112 : UInt8) :: r).length, (0 : Int) ≤ 1 ∧ (1 : Int) < 6, true = true, false = false, condP [(2, false)] [(2, true)] → (0 : Int) ≤ 0 ∧ 0 < ((112 : UInt8) :: r).length, (0 : Int) ≤ 0 ∧ (0 : Int) < 6, true = true, false = false]) := by kernel_rfl

set_option maxRecDepth 100000 in
theorem rd_4f (r : List UInt8) : pureCall XSh4 [] 200 9 [.string ⟨⟨112 :: r⟩⟩] [false, true, false, true, false, true, false, true, false, true, true, true, false, false, false] = some (.tuple ⟨[.agg ⟨[.int .i64 4, .int .i64 (num (Lib.trimSuffix (Sh.ahead r) [44])), .bool (!((Lib.trimSuffix (Sh.ahead r) [44]) == Sh.ahead r)), .int .i64 (num (Sh.behind r))]⟩, .int .i64 0]⟩,
  [(match codeE 4 (num (Lib.trimSuffix (Sh.ahead r) [44])) (!((Lib.trimSuffix (Sh.ahead r) [44]) == Sh.ahead r)) (num (Sh.behind r)) != 0 with | true => true | false => !(codeS 4 (num (Lib.trimSuffix (Sh.ahead r) [44])) (!((Lib.trimSuffix (Sh.ahead r) [44]) == Sh.ahead r)) (num (Sh.behind r)) == ((112 : UInt8) :: r))) = false, (Sh.behind r).length ≤ 281474976710656, (Lib.trimSuffix (Sh.ahead r) [44]).length ≤ 281474976710656, (Sh.ahead r).length ≤ 9223372036854775807, r.length ≤ 9223372036854775807, (0 : Int) ≤ 1 ∧ (1 : Int) ≤ ((r.length + 1 : Nat) : Int), false = false, false = false, condP [(2, true)] [(2, true)] → (0 : Int) ≤ 0 ∧ 0 < ((112 : UInt8) :: r).length, (0 : Int) ≤ 5 ∧ (5 : Int) < 6, true = true, true = true, condP [(2, true)] [(2, true)] → (0 : Int) ≤ 0 ∧ 0 < ((112 : UInt8) :: r).length, (0 : Int) ≤ 4 ∧ (4 : Int) < 6, true = true, false = false, condP [(2, true)] [(2, true)] → (0 : Int) ≤ 0 ∧ 0 < ((112 : UInt8) :: r).length, (0 : Int) ≤ 3 ∧ (3 : Int) < 6, true = true, false = false, condP [(2, true)] [(2, true)] → (0 : Int) ≤ 0 ∧ 0 < ((112 : UInt8) :: r).length, (0 : Int) ≤ 2 ∧ (2 : Int) < 6, true = true, false = false, condP [(2, true)] [(2, true)] → (0 : Int) ≤ 0 ∧ 0 < ((112 : UInt8) :: r).length, (0 : Int) ≤ 1 ∧ (1 : Int) < 6, true = true, false = false, condP [(2, false)] [(2, true)] → (0 : Int) ≤ 0 ∧ 0 < ((112 : UInt8) :: r).length, (0 : Int) ≤ 0 ∧ (0 : Int) < 6, true = true, false = false]) := by kernel_rfl

set_option maxRecDepth 100000 in
theorem rd_5t (r : List UInt8) : pureCall XSh4 [] 200 9 [.string ⟨⟨113 :: r⟩⟩] [false, true, false, true, false, true, false, true, false, true, false, true, true, false, true] = some (.tuple ⟨[.agg ⟨[.int .i64 0, .int .i64 0, .bool false, .int .i64 0]⟩, .int .i64 3]⟩,
  [(match codeE 5 (num (Lib.trimSuffix (Sh.ahead r) [44])) (!((Lib.trimSuffix (Sh.ahead r) [44]) == Sh.ahead r)) (num (Sh.behind r)) != 0 with | true => true | false => !(codeS 5 (num (Lib.trimSuffix (Sh.ahead r) [44])) (!((Lib.trimSuffix (Sh.ahead r) [44]) == Sh.ahead r)) (num (Sh.behind r)) == ((113 : UInt8) :: r))) = true, (Sh.behind r).length ≤ 281474976710656, (Lib.trimSuffix (Sh.ahead r) [44]).length ≤ 281474976710656, (Sh.ahead r).length ≤ 9223372036854775807, r.length ≤ 9223372036854775807, (0 : Int) ≤ 1 ∧ (1 : Int) ≤ ((r.length + 1 : Nat) : Int), false = false, true = true, condP [(2, true)] [(2, true)] → (0 : Int) ≤ 0 ∧ 0 < ((113 : UInt8) :: r).length, (0 : Int) ≤ 5 ∧ (5 : Int) < 6, true = true, false = false, condP [(2, true)] [(2, true)] → (0 : Int) ≤ 0 ∧ 0 < ((113 : UInt8) :: r).length, (0 : Int) ≤ 4 ∧ (4 : Int) < 6, true = true, false = false, condP [(2, true)] [(2, true)] → (0 : Int) ≤ 0 ∧ 0 < ((113 : UInt8) :: r).length, (0 : Int) ≤ 3 ∧ (3 : Int) < 6, true = true, false = false, condP [(2, true)] [(2, true)] → (0 : Int) ≤ 0 ∧ 0 < ((113 : UInt8) :: r).length, (0 : Int) ≤ 2 ∧ (2 : Int) < 6, true = true, false = false, condP [(2, true)] [(2, true)] → (0 : Int) ≤ 0 ∧ 0 < ((113 : UInt8) :: r).length, (0 : Int) ≤ 1 ∧ (1 : Int) < 6, true = true, false = false, condP [(2, false)] [(2, true)] → (0 : Int) ≤ 0 ∧ 0 < ((113 : UInt8) :: r).length, (0 : Int) ≤ 0 ∧ (0 : Int) < 6, true = true, false = false]) := by kernel_rfl

set_option maxRecDepth 100000 in
theorem rd_5f (r : List UInt8) : pureCall XSh4 [] 200 9 [.string ⟨⟨113 :: r⟩⟩] [false, true, false, true, false, true, false, true, false, true, false, true, true, false, false] = some (.tuple ⟨[.agg ⟨[.int .i64 5, .int .i64 (num (Lib.trimSuffix (Sh.ahead r) [44])), .bool (!((Lib.trimSuffix (Sh.ahead r) [44]) == Sh.ahead r)), .int .i64 (num (Sh.behind r))]⟩, .int .i64 0]⟩,
  [(match codeE 5 (num (Lib.trimSuffix (Sh.ahead r) [44])) (!((Lib.trimSuffix (Sh.ahead r) [44]) == Sh.ahead r)) (num (Sh.behind r)) != 0 with | true => true | false => !(codeS 5 (num (Lib.trimSuffix (Sh.ahead r) [44])) (!((Lib.trimSuffix (Sh.ahead r) [44]) == Sh.ahead r)) (num (Sh.behind r)) == ((113 : UInt8) :: r))) = false, (Sh.behind r).length ≤ 281474976710656, (Lib.trimSuffix (Sh.ahead r) [44]).length ≤ 281474976710656, (Sh.ahead r).length ≤ 9223372036854775807, r.length ≤ 9223372036854775807, (0 : Int) ≤ 1 ∧ (1 : Int) ≤ ((r.length + 1 : Nat) : Int), false = false, true = true, condP [(2, true)] [(2, true)] → (0 : Int) ≤ 0 ∧ 0 < ((113 : UInt8) :: r).length, (0 : Int) ≤ 5 ∧ (5 : Int) < 6, true = true, false = false, condP [(2, true)] [(2, true)] → (0 : Int) ≤ 0 ∧ 0 < ((113 : UInt8) :: r).length, (0 : Int) ≤ 4 ∧ (4 : Int) < 6, true = true, false = false, condP [(2, true)] [(2, true)] → (0 : Int) ≤ 0 ∧ 0 < ((113 : UInt8) :: r).length, (0 : Int) ≤ 3 ∧ (3 : Int) < 6, true = true, false = false, condP [(2, true)] [(2, true)] → (0 : Int) ≤ 0 ∧ 0 < ((113 : UInt8) :: r).length, (0 : Int) ≤ 2 ∧ (2 : Int) < 6, true = true, false = false, condP [(2, true)] [(2, true)] → (0 : Int) ≤ 0 ∧ 0 < ((113 : UInt8) :: r).length, (0 : Int) ≤ 1 ∧ (1 : Int) < 6, true = true, false = false, condP [(2, false)] [(2, true)] → (0 : Int) ≤ 0 ∧ 0 < ((113 : UInt8) :: r).length, (0 : Int) ≤ 0 ∧ (0 : Int) < 6, true = true, false = false]) := by kernel_rfl

set_option maxRecDepth 100000 in
theorem rd_0t (c : UInt8) (r : List UInt8) : pureCall XSh4 [] 200 9 [.string ⟨⟨c :: r⟩⟩] [false, true, false, true, false, true, false, true, false, true, false, true, false, false, true] = some (.tuple ⟨[.agg ⟨[.int .i64 0, .int .i64 0, .bool false, .int .i64 0]⟩, .int .i64 3]⟩,
  [(match codeE 0 (num (Lib.trimSuffix (Sh.ahead r) [44])) (!((Lib.trimSuffix (Sh.ahead r) [44]) == Sh.ahead r)) (num (Sh.behind r)) != 0 with | true => true | false => !(codeS 0 (num (Lib.trimSuffix (Sh.ahead r) [44])) (!((Lib.trimSuffix (Sh.ahead r) [44]) == Sh.ahead r)) (num (Sh.behind r)) == ((c : UInt8) :: r))) = true, (Sh.behind r).length ≤ 281474976710656, (Lib.trimSuffix (Sh.ahead r) [44]).length ≤ 281474976710656, (Sh.ahead r).length ≤ 9223372036854775807, r.length ≤ 9223372036854775807, (0 : Int) ≤ 1 ∧ (1 : Int) ≤ ((r.length + 1 : Nat) : Int), false = false, (((113 : Int) == ((((c : UInt8) :: r).getD 0 0).toNat : Int)) = false), condP [(2, true)] [(2, true)] → (0 : Int) ≤ 0 ∧ 0 < ((c : UInt8) :: r).length, (0 : Int) ≤ 5 ∧ (5 : Int) < 6, true = true, (((112 : Int) == ((((c : UInt8) :: r).getD 0 0).toNat : Int)) = false), condP [(2, true)] [(2, true)] → (0 : Int) ≤ 0 ∧ 0 < ((c : UInt8) :: r).length, (0 : Int) ≤ 4 ∧ (4 : Int) < 6, true = true, (((115 : Int) == ((((c : UInt8) :: r).getD 0 0).toNat : Int)) = false), condP [(2, true)] [(2, true)] → (0 : Int) ≤ 0 ∧ 0 < ((c : UInt8) :: r).length, (0 : Int) ≤ 3 ∧ (3 : Int) < 6, true = true, (((102 : Int) == ((((c : UInt8) :: r).getD 0 0).toNat : Int)) = false), condP [(2, true)] [(2, true)] → (0 : Int) ≤ 0 ∧ 0 < ((c : UInt8) :: r).length, (0 : Int) ≤ 2 ∧ (2 : Int) < 6, true = true, (((103 : Int) == ((((c : UInt8) :: r).getD 0 0).toNat : Int)) = false), condP [(2, true)] [(2, true)] → (0 : Int) ≤ 0 ∧ 0 < ((c : UInt8) :: r).length, (0 : Int) ≤ 1 ∧ (1 : Int) < 6, true = true, false = false, condP [(2, false)] [(2, true)] → (0 : Int) ≤ 0 ∧ 0 < ((c : UInt8) :: r).length, (0 : Int) ≤ 0 ∧ (0 : Int) < 6, true = true, false = false]) := by kernel_rfl

set_option maxRecDepth 100000 in
theorem rd_none : pureCall XSh4 [] 200 9 [.string ⟨⟨[]⟩⟩] [] = some (.tuple ⟨[.agg ⟨[.int .i64 0, .int .i64 0, .bool false, .int .i64 0]⟩, .int .i64 3]⟩, []) := by kernel_rfl

theorem bne_list (a b : List UInt8) : (!(a == b)) = !decide (a = b) := by
  congr 1
  by_cases h : a = b
  · subst h; simp
  · simp [h]

theorem len_ahead (r : List UInt8) : (Sh.ahead r).length ≤ r.length := by
  unfold Sh.ahead
  split
  · simp; omega
  · exact Nat.le_refl _
theorem len_behind (r : List UInt8) : (Sh.behind r).length ≤ r.length := by
  unfold Sh.behind
  split
  · simp
  · simp
theorem len_trim (r t : List UInt8) : (Lib.trimSuffix r t).length ≤ r.length := by
  unfold Lib.trimSuffix
  split
  · simp
  · exact Nat.le_refl _

theorem short_eq (t : List UInt8) : Lib.trimSuffix t [44] = Sh.short t := rfl

/-- What Read answers. -/
def readV (t : List UInt8) : Value := match readF t with
  | some f => .tuple ⟨[.agg ⟨[.int .i64 f.k, .int .i64 f.p, .bool f.g, .int .i64 f.w]⟩, .int .i64 0]⟩
  | none => .tuple ⟨[.agg ⟨[.int .i64 0, .int .i64 0, .bool false, .int .i64 0]⟩, .int .i64 3]⟩

theorem check_eq (k p : Int) (g : Bool) (w : Int) (t : List UInt8) : (match codeE k p g w != 0 with | true => true | false => !(codeS k p g w == t)) = !decide (valid k p g w = true ∧ code k p g w = t) := by
  cases hv : valid k p g w with
  | false =>
    have : codeE k p g w = 1 := by unfold codeE; rw [hv]; rfl
    rw [this]
    simp
  | true =>
    have e1 : codeE k p g w = 0 := by unfold codeE; rw [hv]; rfl
    have e2 : codeS k p g w = code k p g w := by unfold codeS; rw [hv]; rfl
    rw [e1, e2]
    simp only [bne_self_eq_false, true_and]
    exact bne_list _ _

theorem readV_cons (c : UInt8) (r : List UInt8) : readV (c :: r) = if valid (kindOf c) (num (Sh.short (Sh.ahead r))) (!(Sh.short (Sh.ahead r) == Sh.ahead r)) (num (Sh.behind r)) = true ∧ code (kindOf c) (num (Sh.short (Sh.ahead r))) (!(Sh.short (Sh.ahead r) == Sh.ahead r)) (num (Sh.behind r)) = c :: r
    then .tuple ⟨[.agg ⟨[.int .i64 (kindOf c), .int .i64 (num (Sh.short (Sh.ahead r))), .bool (!(Sh.short (Sh.ahead r) == Sh.ahead r)), .int .i64 (num (Sh.behind r))]⟩, .int .i64 0]⟩
    else .tuple ⟨[.agg ⟨[.int .i64 0, .int .i64 0, .bool false, .int .i64 0]⟩, .int .i64 3]⟩ := by
  rw [bne_list]
  unfold readV readF raw
  simp only
  split <;> rename_i h
  · split at h
    · rename_i hc; cases h; rw [if_pos hc]
    · cases h
  · split at h
    · cases h
    · rename_i hc; rw [if_neg hc]

theorem read_pure {t : List UInt8} (ht : t.length ≤ 281474976710656) : Ev.Pure Tryz.prog J0 9 [.string ⟨⟨t⟩⟩] (readV t) := by
  cases t with
  | nil => exact pure_call bSh4_ok rd_none trivial
  | cons c r =>
    have hr : r.length ≤ 281474976710656 := by simp at ht; omega
    have l1 := len_ahead r
    have l2 := len_behind r
    have l3 := len_trim (Sh.ahead r) [44]
    have b1 : (Sh.behind r).length ≤ 281474976710656 := by omega
    have b2 : (Lib.trimSuffix (Sh.ahead r) [44]).length ≤ 281474976710656 := by omega
    have b3 : (Sh.ahead r).length ≤ 9223372036854775807 := by omega
    have b4 : r.length ≤ 9223372036854775807 := by omega
    have b5 : (0 : Int) ≤ 1 ∧ (1 : Int) ≤ ((r.length + 1 : Nat) : Int) := ⟨by decide, by omega⟩
    have b6 : ∀ (b : Bool) (x : UInt8), condP [(2, b)] [(2, true)] → (0 : Int) ≤ 0 ∧ 0 < (x :: r).length := fun _ _ _ => ⟨by decide, by simp⟩
    have i5 : (0 : Int) ≤ 5 ∧ (5 : Int) < 6 := by decide
    have i4 : (0 : Int) ≤ 4 ∧ (4 : Int) < 6 := by decide
    have i3 : (0 : Int) ≤ 3 ∧ (3 : Int) < 6 := by decide
    have i2 : (0 : Int) ≤ 2 ∧ (2 : Int) < 6 := by decide
    have i1 : (0 : Int) ≤ 1 ∧ (1 : Int) < 6 := by decide
    have i0 : (0 : Int) ≤ 0 ∧ (0 : Int) < 6 := by decide
    rw [readV_cons]
    by_cases h1 : c = 103
    · subst h1
      rw [show kindOf 103 = 1 by decide]
      by_cases hc : valid 1 (num (Sh.short (Sh.ahead r))) (!(Sh.short (Sh.ahead r) == Sh.ahead r)) (num (Sh.behind r)) = true ∧ code 1 (num (Sh.short (Sh.ahead r))) (!(Sh.short (Sh.ahead r) == Sh.ahead r)) (num (Sh.behind r)) = 103 :: r
      · rw [if_pos hc]
        exact pure_call bSh4_ok (rd_1f r) ⟨(check_eq 1 (num (Sh.short (Sh.ahead r))) (!(Sh.short (Sh.ahead r) == Sh.ahead r)) (num (Sh.behind r)) (103 :: r)).trans (by rw [decide_eq_true hc]; rfl), b1, b2, b3, b4, b5, rfl, rfl, b6 _ _, i5, rfl, rfl, b6 _ _, i4, rfl, rfl, b6 _ _, i3, rfl, rfl, b6 _ _, i2, rfl, rfl, b6 _ _, i1, rfl, rfl, b6 _ _, i0, rfl, rfl, trivial⟩
      · rw [if_neg hc]
        exact pure_call bSh4_ok (rd_1t r) ⟨(check_eq 1 (num (Sh.short (Sh.ahead r))) (!(Sh.short (Sh.ahead r) == Sh.ahead r)) (num (Sh.behind r)) (103 :: r)).trans (by rw [decide_eq_false hc]; rfl), b1, b2, b3, b4, b5, rfl, rfl, b6 _ _, i5, rfl, rfl, b6 _ _, i4, rfl, rfl, b6 _ _, i3, rfl, rfl, b6 _ _, i2, rfl, rfl, b6 _ _, i1, rfl, rfl, b6 _ _, i0, rfl, rfl, trivial⟩
    by_cases h2 : c = 102
    · subst h2
      rw [show kindOf 102 = 2 by decide]
      by_cases hc : valid 2 (num (Sh.short (Sh.ahead r))) (!(Sh.short (Sh.ahead r) == Sh.ahead r)) (num (Sh.behind r)) = true ∧ code 2 (num (Sh.short (Sh.ahead r))) (!(Sh.short (Sh.ahead r) == Sh.ahead r)) (num (Sh.behind r)) = 102 :: r
      · rw [if_pos hc]
        exact pure_call bSh4_ok (rd_2f r) ⟨(check_eq 2 (num (Sh.short (Sh.ahead r))) (!(Sh.short (Sh.ahead r) == Sh.ahead r)) (num (Sh.behind r)) (102 :: r)).trans (by rw [decide_eq_true hc]; rfl), b1, b2, b3, b4, b5, rfl, rfl, b6 _ _, i5, rfl, rfl, b6 _ _, i4, rfl, rfl, b6 _ _, i3, rfl, rfl, b6 _ _, i2, rfl, rfl, b6 _ _, i1, rfl, rfl, b6 _ _, i0, rfl, rfl, trivial⟩
      · rw [if_neg hc]
        exact pure_call bSh4_ok (rd_2t r) ⟨(check_eq 2 (num (Sh.short (Sh.ahead r))) (!(Sh.short (Sh.ahead r) == Sh.ahead r)) (num (Sh.behind r)) (102 :: r)).trans (by rw [decide_eq_false hc]; rfl), b1, b2, b3, b4, b5, rfl, rfl, b6 _ _, i5, rfl, rfl, b6 _ _, i4, rfl, rfl, b6 _ _, i3, rfl, rfl, b6 _ _, i2, rfl, rfl, b6 _ _, i1, rfl, rfl, b6 _ _, i0, rfl, rfl, trivial⟩
    by_cases h3 : c = 115
    · subst h3
      rw [show kindOf 115 = 3 by decide]
      by_cases hc : valid 3 (num (Sh.short (Sh.ahead r))) (!(Sh.short (Sh.ahead r) == Sh.ahead r)) (num (Sh.behind r)) = true ∧ code 3 (num (Sh.short (Sh.ahead r))) (!(Sh.short (Sh.ahead r) == Sh.ahead r)) (num (Sh.behind r)) = 115 :: r
      · rw [if_pos hc]
        exact pure_call bSh4_ok (rd_3f r) ⟨(check_eq 3 (num (Sh.short (Sh.ahead r))) (!(Sh.short (Sh.ahead r) == Sh.ahead r)) (num (Sh.behind r)) (115 :: r)).trans (by rw [decide_eq_true hc]; rfl), b1, b2, b3, b4, b5, rfl, rfl, b6 _ _, i5, rfl, rfl, b6 _ _, i4, rfl, rfl, b6 _ _, i3, rfl, rfl, b6 _ _, i2, rfl, rfl, b6 _ _, i1, rfl, rfl, b6 _ _, i0, rfl, rfl, trivial⟩
      · rw [if_neg hc]
        exact pure_call bSh4_ok (rd_3t r) ⟨(check_eq 3 (num (Sh.short (Sh.ahead r))) (!(Sh.short (Sh.ahead r) == Sh.ahead r)) (num (Sh.behind r)) (115 :: r)).trans (by rw [decide_eq_false hc]; rfl), b1, b2, b3, b4, b5, rfl, rfl, b6 _ _, i5, rfl, rfl, b6 _ _, i4, rfl, rfl, b6 _ _, i3, rfl, rfl, b6 _ _, i2, rfl, rfl, b6 _ _, i1, rfl, rfl, b6 _ _, i0, rfl, rfl, trivial⟩
    by_cases h4 : c = 112
    · subst h4
      rw [show kindOf 112 = 4 by decide]
      by_cases hc : valid 4 (num (Sh.short (Sh.ahead r))) (!(Sh.short (Sh.ahead r) == Sh.ahead r)) (num (Sh.behind r)) = true ∧ code 4 (num (Sh.short (Sh.ahead r))) (!(Sh.short (Sh.ahead r) == Sh.ahead r)) (num (Sh.behind r)) = 112 :: r
      · rw [if_pos hc]
        exact pure_call bSh4_ok (rd_4f r) ⟨(check_eq 4 (num (Sh.short (Sh.ahead r))) (!(Sh.short (Sh.ahead r) == Sh.ahead r)) (num (Sh.behind r)) (112 :: r)).trans (by rw [decide_eq_true hc]; rfl), b1, b2, b3, b4, b5, rfl, rfl, b6 _ _, i5, rfl, rfl, b6 _ _, i4, rfl, rfl, b6 _ _, i3, rfl, rfl, b6 _ _, i2, rfl, rfl, b6 _ _, i1, rfl, rfl, b6 _ _, i0, rfl, rfl, trivial⟩
      · rw [if_neg hc]
        exact pure_call bSh4_ok (rd_4t r) ⟨(check_eq 4 (num (Sh.short (Sh.ahead r))) (!(Sh.short (Sh.ahead r) == Sh.ahead r)) (num (Sh.behind r)) (112 :: r)).trans (by rw [decide_eq_false hc]; rfl), b1, b2, b3, b4, b5, rfl, rfl, b6 _ _, i5, rfl, rfl, b6 _ _, i4, rfl, rfl, b6 _ _, i3, rfl, rfl, b6 _ _, i2, rfl, rfl, b6 _ _, i1, rfl, rfl, b6 _ _, i0, rfl, rfl, trivial⟩
    by_cases h5 : c = 113
    · subst h5
      rw [show kindOf 113 = 5 by decide]
      by_cases hc : valid 5 (num (Sh.short (Sh.ahead r))) (!(Sh.short (Sh.ahead r) == Sh.ahead r)) (num (Sh.behind r)) = true ∧ code 5 (num (Sh.short (Sh.ahead r))) (!(Sh.short (Sh.ahead r) == Sh.ahead r)) (num (Sh.behind r)) = 113 :: r
      · rw [if_pos hc]
        exact pure_call bSh4_ok (rd_5f r) ⟨(check_eq 5 (num (Sh.short (Sh.ahead r))) (!(Sh.short (Sh.ahead r) == Sh.ahead r)) (num (Sh.behind r)) (113 :: r)).trans (by rw [decide_eq_true hc]; rfl), b1, b2, b3, b4, b5, rfl, rfl, b6 _ _, i5, rfl, rfl, b6 _ _, i4, rfl, rfl, b6 _ _, i3, rfl, rfl, b6 _ _, i2, rfl, rfl, b6 _ _, i1, rfl, rfl, b6 _ _, i0, rfl, rfl, trivial⟩
      · rw [if_neg hc]
        exact pure_call bSh4_ok (rd_5t r) ⟨(check_eq 5 (num (Sh.short (Sh.ahead r))) (!(Sh.short (Sh.ahead r) == Sh.ahead r)) (num (Sh.behind r)) (113 :: r)).trans (by rw [decide_eq_false hc]; rfl), b1, b2, b3, b4, b5, rfl, rfl, b6 _ _, i5, rfl, rfl, b6 _ _, i4, rfl, rfl, b6 _ _, i3, rfl, rfl, b6 _ _, i2, rfl, rfl, b6 _ _, i1, rfl, rfl, b6 _ _, i0, rfl, rfl, trivial⟩
    have hk : kindOf c = 0 := by unfold kindOf; rw [if_neg h1, if_neg h2, if_neg h3, if_neg h4, if_neg h5]
    have hv : ∀ p g w, ¬ (valid 0 p g w = true ∧ code 0 p g w = c :: r) := fun p g w hh => by
      have := hh.1
      unfold valid at this
      simp at this
    rw [hk, if_neg (hv _ _ _)]
    have hck := (check_eq 0 (num (Sh.short (Sh.ahead r))) (!(Sh.short (Sh.ahead r) == Sh.ahead r)) (num (Sh.behind r)) (c :: r)).trans (by rw [decide_eq_false (hv _ _ _)]; rfl : _ = true)
    have q : ∀ x : UInt8, c ≠ x → (((x.toNat : Nat) : Int) == ((((c :: r).getD 0 0).toNat : Nat) : Int)) = false := fun x hx => by
      rw [beq_eq_false_iff_ne]
      intro e
      have e : x.toNat = c.toNat := by simp only [List.getD_cons_zero] at e; omega
      exact hx (UInt8.toNat_inj.1 e.symm)
    exact pure_call bSh4_ok (rd_0t c r) ⟨hck, b1, b2, b3, b4, b5, rfl, q 113 (fun e => h5 e), b6 _ _, i5, rfl, q 112 (fun e => h4 e), b6 _ _, i4, rfl, q 115 (fun e => h3 e), b6 _ _, i3, rfl, q 102 (fun e => h2 e), b6 _ _, i2, rfl, q 103 (fun e => h1 e), b6 _ _, i1, rfl, rfl, b6 _ _, i0, rfl, rfl, trivial⟩

end Go.Proofs.YtlbmpbkfkmabaaaGreatDoor
