/- RupEmpty: the pure statement: its walk tells all. -/
import Derived.Test.YtohgjbkiemnfnaaRn12
namespace Go.Proofs.Ytohgjbkiemnfnaa.Pure
open Go Go.RowKit Go.Proofs.Ytohgjbkiemnfnaa.R
theorem RupEmpty : ferrulelaw22_RupEmpty.Pure := by
  intro l0 l1 _ _ _
  rfl
end Go.Proofs.Ytohgjbkiemnfnaa.Pure
