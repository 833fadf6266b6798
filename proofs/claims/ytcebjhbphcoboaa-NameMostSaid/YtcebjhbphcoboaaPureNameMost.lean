/- NameMost: the pure statement: its walk tells all. -/
import Derived.Test.YtcebjhbphcoboaaXn4
namespace Go.Proofs.Ytcebjhbphcoboaa.Pure
open Go.RowKit Go.Proofs.Ytcebjhbphcoboaa.X
theorem NameMost : ferrulelaw08_NameMost.Pure := by
  intro a0 h
  have h2 : 0 ≤ a0 ∧ a0 ≤ 65535 := by
    simp only [Lit.wf, Bool.and_eq_true, decide_eq_true_eq] at h
    exact h
  unfold ferrulelaw08_NameMost.f
  rw [if_pos h2]
end Go.Proofs.Ytcebjhbphcoboaa.Pure
