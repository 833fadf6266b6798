/- AtomsMonotone: the pure statement: its walk tells all. -/
import Derived.Test.YtohgjbkiemnfnaaXn4
namespace Go.Proofs.Ytohgjbkiemnfnaa.Pure
open Go.RowKit Go.Proofs.Ytohgjbkiemnfnaa.X
theorem AtomsMonotone : ferrulelaw13_AtomsMonotone.Pure := by
  intro l0 l1
  intros
  rfl
end Go.Proofs.Ytohgjbkiemnfnaa.Pure
