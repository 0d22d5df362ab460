/-
  Closed contracts (printed by mkclosed2.py).
-/
import Derived.Test.YtlbmpbkfkmabaaaGreatDoorCcT
namespace Go.Proofs.YtlbmpbkfkmabaaaGreatDoor
open Go Go.RowKit Ev

set_option maxRecDepth 100000 in
theorem cc8_0 : Pure Tryz.prog J0 56 [.float .f64 4602678819172646912] (.tuple ⟨[.agg ⟨[.bool false, .string ⟨⟨[53]⟩⟩, .int .i64 (-1)]⟩, .int .i64 0]⟩) :=
  pure_of bT1_ok 30 [] [] (l := []) (by kernel_rfl) trivial

set_option maxRecDepth 100000 in
theorem cc8_1 : Pure Tryz.prog J0 73 [.agg ⟨[.bool false, .string ⟨⟨[53]⟩⟩, .int .i64 (-1)]⟩, .int .i64 1, .int .i64 1] (.tuple ⟨[.agg ⟨[.bool false, .string ⟨⟨[53]⟩⟩, .int .i64 (-1)]⟩, .int .i64 0]⟩) :=
  pure_of bT1_ok 30 [] [] (l := []) (by kernel_rfl) trivial

set_option maxRecDepth 100000 in
theorem cc8_2 : Pure Tryz.prog J0 113 [.agg ⟨[.bool false, .string ⟨⟨[53]⟩⟩, .int .i64 (-1)]⟩, .int .i64 1] (.tuple ⟨[.float .f64 4602678819172646912, .agg ⟨[.bool false, .bool false, .bool false]⟩, .int .i64 0]⟩) :=
  pure_of bT1_ok 30 [] [] (l := []) (by kernel_rfl) trivial

set_option maxRecDepth 100000 in
theorem cc8_3 : Pure Tryz.prog J0 56 [.float .f64 4607182418800017408] (.tuple ⟨[.agg ⟨[.bool false, .string ⟨⟨[49]⟩⟩, .int .i64 0]⟩, .int .i64 0]⟩) :=
  pure_of bT1_ok 30 [] [] (l := []) (by kernel_rfl) trivial

set_option maxRecDepth 100000 in
theorem cc8_4 : Pure Tryz.prog J0 73 [.agg ⟨[.bool false, .string ⟨⟨[49]⟩⟩, .int .i64 0]⟩, .int .i64 1, .int .i64 1] (.tuple ⟨[.agg ⟨[.bool false, .string ⟨⟨[49]⟩⟩, .int .i64 0]⟩, .int .i64 0]⟩) :=
  pure_of bT1_ok 30 [] [] (l := []) (by kernel_rfl) trivial

set_option maxRecDepth 100000 in
theorem cc8_5 : Pure Tryz.prog J0 113 [.agg ⟨[.bool false, .string ⟨⟨[49]⟩⟩, .int .i64 0]⟩, .int .i64 1] (.tuple ⟨[.float .f64 4607182418800017408, .agg ⟨[.bool false, .bool false, .bool false]⟩, .int .i64 0]⟩) :=
  pure_of bT1_ok 30 [] [] (l := []) (by kernel_rfl) trivial

end Go.Proofs.YtlbmpbkfkmabaaaGreatDoor
