/- CertLonger: the pure statement: its walk tells all. -/
import Derived.Test.YtcebjhbphcoboaaCn8
namespace Go.Proofs.Ytcebjhbphcoboaa.Pure
open Go Go.RowKit Go.Proofs.Ytcebjhbphcoboaa.C
theorem CertLonger : ferrulelaw23_CertLonger.Pure := by
  intro l0 l1 a1 a2 _ _ h1 _
  unfold ferrulelaw23_CertLonger.f
  have e1 : IntKind.u16.min = 0 := by decide
  have e2 : IntKind.u16.max = 65535 := by decide
  simp only [Lit.wf, Bool.and_eq_true, decide_eq_true_eq, e1, e2] at h1
  exact if_pos ⟨h1.1, by omega⟩
end Go.Proofs.Ytcebjhbphcoboaa.Pure
