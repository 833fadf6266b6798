/- OrderImplies: the pure statement: its walk tells all. -/
import Derived.Test.YtcebjhbphcoboaaXn11
namespace Go.Proofs.Ytcebjhbphcoboaa.Pure
open Go Go.RowKit Go.Proofs.Ytcebjhbphcoboaa.X
theorem OrderImplies : ferrulelaw15_OrderImplies.Pure := by
  intro l0 l1 a2 a3 _ _ _ h1 _ h3
  unfold ferrulelaw15_OrderImplies.f
  have e1 : IntKind.i64.min = -9223372036854775808 := by decide
  have e2 : IntKind.i64.max = 9223372036854775807 := by decide
  simp only [Lit.wf, Bool.and_eq_true, decide_eq_true_eq, e1, e2] at h3
  have h4 : ∀ x ∈ l1, -9223372036854775808 ≤ x ∧ x ≤ 9223372036854775807 := fun x hx => by
    have := h1 x hx
    simp only [Lit.wf, Bool.and_eq_true, decide_eq_true_eq, e1, e2] at this
    exact this
  exact if_pos ⟨h4, h3⟩
end Go.Proofs.Ytcebjhbphcoboaa.Pure
