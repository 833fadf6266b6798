/- AtomsVars: the pure statement: its walk tells all. -/
import Derived.Test.YtohgjbkiemnfnaaXn3
namespace Go.Proofs.Ytohgjbkiemnfnaa.Pure
open Go.RowKit Go.Proofs.Ytohgjbkiemnfnaa.X
theorem AtomsVars : ferrulelaw13_AtomsVars.Pure := by
  intro l0 a0 a1 a2 a3
  intros
  rfl
end Go.Proofs.Ytohgjbkiemnfnaa.Pure
