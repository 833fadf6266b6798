/- AtomsChoices: the pure statement: its walk tells all. -/
import Derived.Test.YtohgjbkiemnfnaaXn6
namespace Go.Proofs.Ytohgjbkiemnfnaa.Pure
open Go.RowKit Go.Proofs.Ytohgjbkiemnfnaa.X
theorem AtomsChoices : ferrulelaw13_AtomsChoices.Pure := by
  intro l0 l1
  intros
  rfl
end Go.Proofs.Ytohgjbkiemnfnaa.Pure
