/- OrderSnaps: the pure statement: its walk tells all. -/
import Derived.Test.YtcebjhbphcoboaaXn9
namespace Go.Proofs.Ytcebjhbphcoboaa.Pure
open Go Go.RowKit Go.Proofs.Ytcebjhbphcoboaa.X
theorem OrderSnaps : ferrulelaw15_OrderSnaps.Pure := by
  intro l0 l1 _ _ _ h1
  unfold ferrulelaw15_OrderSnaps.f
  rw [if_pos fun x hx => ?_]
  have := h1 x hx
  simp only [Lit.wf, Bool.and_eq_true, decide_eq_true_eq] at this
  have e1 : IntKind.i64.min = -9223372036854775808 := by decide
  have e2 : IntKind.i64.max = 9223372036854775807 := by decide
  rw [e1, e2] at this
  exact this
end Go.Proofs.Ytcebjhbphcoboaa.Pure
