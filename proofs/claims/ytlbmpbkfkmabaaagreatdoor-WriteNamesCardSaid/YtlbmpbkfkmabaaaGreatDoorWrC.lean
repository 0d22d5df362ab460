/-
  Layer 13's examples (closed): the statement that calls write.Spaced (printed by mkwrite.py).
-/
import Derived.Test.YtlbmpbkfkmabaaaGreatDoorWrS
namespace Go.Proofs.YtlbmpbkfkmabaaaGreatDoor
open Go Go.RowKit Ev Wr

set_option maxRecDepth 1000000 in
theorem wr_3 : evCode XWr [] 1996 (headC (tl 3)) s3 = some (.normal, s4) := by kernel_rfl

end Go.Proofs.YtlbmpbkfkmabaaaGreatDoor
