/- RupPlays: the pure statement: its walk tells all. -/
import Derived.Test.YtohgjbkiemnfnaaRn13
namespace Go.Proofs.Ytohgjbkiemnfnaa.Pure
open Go Go.RowKit Go.Proofs.Ytohgjbkiemnfnaa.R
theorem RupPlays : ferrulelaw22_RupPlays.Pure := by
  intro l0 l1 _ _ _
  rfl
end Go.Proofs.Ytohgjbkiemnfnaa.Pure
