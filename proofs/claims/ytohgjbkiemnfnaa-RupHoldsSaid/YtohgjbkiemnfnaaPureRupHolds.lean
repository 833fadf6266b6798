/- RupHolds: the pure statement: its walk tells all. -/
import Derived.Test.YtohgjbkiemnfnaaRn11
namespace Go.Proofs.Ytohgjbkiemnfnaa.Pure
open Go Go.RowKit Go.Proofs.Ytohgjbkiemnfnaa.R
theorem RupHolds : ferrulelaw22_RupHolds.Pure := by
  intro l0 l1 l2 _ _ _ _ _
  rfl
end Go.Proofs.Ytohgjbkiemnfnaa.Pure
