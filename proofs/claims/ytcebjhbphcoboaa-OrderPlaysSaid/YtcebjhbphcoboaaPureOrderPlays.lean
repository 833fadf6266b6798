/- OrderPlays: the pure statement: its walk tells all. -/
import Derived.Test.YtcebjhbphcoboaaXn10
namespace Go.Proofs.Ytcebjhbphcoboaa.Pure
open Go Go.RowKit Go.Proofs.Ytcebjhbphcoboaa.X
theorem OrderPlays : ferrulelaw15_OrderPlays.Pure := by
  intro l0 l1 _ _ h1
  unfold ferrulelaw15_OrderPlays.f
  have e1 : IntKind.i64.min = -9223372036854775808 := by decide
  have e2 : IntKind.i64.max = 9223372036854775807 := by decide
  have h4 : ∀ a ∈ l1, -9223372036854775808 ≤ a.f1 ∧ a.f1 ≤ 9223372036854775807 := fun a ha => by
    have := (h1.2 a ha).2
    simp only [Lit.wf, Bool.and_eq_true, decide_eq_true_eq, e1, e2] at this
    exact this
  exact if_pos h4
end Go.Proofs.Ytcebjhbphcoboaa.Pure
