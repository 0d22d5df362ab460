/-
  Closed contracts (printed by mkclosed2.py).
-/
import Derived.Test.YtaopinmjgjpiiaaGreatDoorCcT
namespace Go.Proofs.YtaopinmjgjpiiaaGreatDoor
open Go Go.RowKit Ev

set_option maxRecDepth 100000 in
theorem ch1_0 : Pure Tryz.prog J0 76 [.agg ⟨[.bool false, .string ⟨⟨[49, 50, 51, 52, 53]⟩⟩, .int .i64 (-1)]⟩, .int .i64 1, .int .i64 1] (.tuple ⟨[.agg ⟨[.bool false, .string ⟨⟨[49]⟩⟩, .int .i64 3]⟩, .int .i64 0]⟩) :=
  pure_of bT1_ok 30 [] [] (l := []) (by kernel_rfl) trivial

set_option maxRecDepth 100000 in
theorem ch1_1 : Pure Tryz.prog J0 76 [.agg ⟨[.bool false, .string ⟨⟨[49, 50, 51, 52, 53]⟩⟩, .int .i64 (-1)]⟩, .int .i64 2, .int .i64 1] (.tuple ⟨[.agg ⟨[.bool false, .string ⟨⟨[49, 50]⟩⟩, .int .i64 2]⟩, .int .i64 0]⟩) :=
  pure_of bT1_ok 30 [] [] (l := []) (by kernel_rfl) trivial

set_option maxRecDepth 100000 in
theorem ch1_2 : Pure Tryz.prog J0 76 [.agg ⟨[.bool false, .string ⟨⟨[49, 50, 51, 52, 53]⟩⟩, .int .i64 (-1)]⟩, .int .i64 3, .int .i64 1] (.tuple ⟨[.agg ⟨[.bool false, .string ⟨⟨[49, 50, 51]⟩⟩, .int .i64 1]⟩, .int .i64 0]⟩) :=
  pure_of bT1_ok 30 [] [] (l := []) (by kernel_rfl) trivial

set_option maxRecDepth 100000 in
theorem ch1_3 : Pure Tryz.prog J0 76 [.agg ⟨[.bool false, .string ⟨⟨[49, 50, 51, 52, 53]⟩⟩, .int .i64 (-1)]⟩, .int .i64 4, .int .i64 1] (.tuple ⟨[.agg ⟨[.bool false, .string ⟨⟨[49, 50, 51, 52]⟩⟩, .int .i64 0]⟩, .int .i64 0]⟩) :=
  pure_of bT1_ok 30 [] [] (l := []) (by kernel_rfl) trivial

set_option maxRecDepth 100000 in
theorem ch1_4 : Pure Tryz.prog J0 76 [.agg ⟨[.bool false, .string ⟨⟨[49, 50, 51, 52, 53]⟩⟩, .int .i64 (-1)]⟩, .int .i64 5, .int .i64 1] (.tuple ⟨[.agg ⟨[.bool false, .string ⟨⟨[49, 50, 51, 52, 53]⟩⟩, .int .i64 (-1)]⟩, .int .i64 0]⟩) :=
  pure_of bT1_ok 30 [] [] (l := []) (by kernel_rfl) trivial

end Go.Proofs.YtaopinmjgjpiiaaGreatDoor
