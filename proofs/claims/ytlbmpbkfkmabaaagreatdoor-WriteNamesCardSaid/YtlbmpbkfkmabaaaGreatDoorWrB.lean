/-
  Layer 13's examples (closed): the statement that calls write.Text (printed by mkwrite.py).
-/
import Derived.Test.YtlbmpbkfkmabaaaGreatDoorWrS
namespace Go.Proofs.YtlbmpbkfkmabaaaGreatDoor
open Go Go.RowKit Ev Wr

set_option maxRecDepth 1000000 in
theorem wr_2 : evCode XWr [] 1997 (headC (tl 2)) s2 = some (.normal, s3) := by kernel_rfl

end Go.Proofs.YtlbmpbkfkmabaaaGreatDoor
