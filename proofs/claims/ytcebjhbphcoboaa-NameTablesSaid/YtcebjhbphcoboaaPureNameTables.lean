/- NameTables: the pure statement: its walk tells all. -/
import Derived.Test.YtcebjhbphcoboaaXn6
namespace Go.Proofs.Ytcebjhbphcoboaa.Pure
open Go.RowKit Go.Proofs.Ytcebjhbphcoboaa.X
theorem NameTables : ferrulelaw08_NameTables.Pure := by
  intro l0 a1
  intros
  rfl
end Go.Proofs.Ytcebjhbphcoboaa.Pure
