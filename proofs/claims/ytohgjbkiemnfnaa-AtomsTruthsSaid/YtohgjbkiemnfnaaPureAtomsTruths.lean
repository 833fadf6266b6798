/- AtomsTruths: the pure statement: its walk tells all. -/
import Derived.Test.YtohgjbkiemnfnaaXn5
namespace Go.Proofs.Ytohgjbkiemnfnaa.Pure
open Go.RowKit Go.Proofs.Ytohgjbkiemnfnaa.X
theorem AtomsTruths : ferrulelaw13_AtomsTruths.Pure := by
  intro l0 l1
  intros
  rfl
end Go.Proofs.Ytohgjbkiemnfnaa.Pure
