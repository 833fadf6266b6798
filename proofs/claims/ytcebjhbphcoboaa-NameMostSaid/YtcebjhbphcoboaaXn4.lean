-- Written by a program of this session (wip/xp), out of the translation. Not trusted: Lean checks it.
import Derived.Test.YtcebjhbphcoboaaX0
import Derived.Test.YtcebjhbphcoboaaTbm
-- shrunk
namespace Go.Proofs.Ytcebjhbphcoboaa.X
open Go.RowKit Go.Proofs.YtcebjhbphcoboaaW.PrintWords Go.Proofs.YtcebjhbphcoboaaW.PrintLast Go.Proofs.YtcebjhbphcoboaaW.PrintMore
attribute [local go_sem] Lab.str_gtr Lab.str_leq Lab.str_geq max2_int min2_int max_two min_two max_three min_three max_four min_four   -- for this text's walks alone
set_option linter.unusedVariables false
set_option linter.unusedSimpArgs false

/-! ### ferrulelaw08_NameMost: function 4 -/
-- imports: Derived.Test.YtcebjhbphcoboaaTbm
def ferrulelaw08_NameMost.f (a0 : Int) : Option Bool := if 0 ≤ a0 ∧ a0 ≤ 65535 then some true else none
theorem ferrulelaw08_NameMost.calls (a0 : Int) (r : Bool) (w : World) (h : ferrulelaw08_NameMost.f a0 = some r) : Calls Try.prog 4 #[.int .u16 a0] w fun e w' => e = .returned (.bool r) ∧ Below w.heap.size w w' := by
 unfold ferrulelaw08_NameMost.f at h
 split at h
 case isFalse => cases h
 case isTrue hl =>
  obtain rfl := Option.some.inj h
  obtain ⟨n, rfl⟩ := Int.eq_ofNat_of_zero_le hl.1
  exact Tbl.most_calls n (by omega) w

def ferrulelaw08_NameMost.Pure : Prop := ∀ (a0 : Int), (Lit.int .u16 a0).wf = true → ferrulelaw08_NameMost.f a0 = some true

end Go.Proofs.Ytcebjhbphcoboaa.X
