-- Written by a program of this session (wip/xp), out of the translation. Not trusted: Lean checks it.
import Derived.Test.YtohgjbkiemnfnaaX0
import Derived.Test.YtohgjbkiemnfnaaAtj
-- shrunk
namespace Go.Proofs.Ytohgjbkiemnfnaa.X
open Go.RowKit Go.Proofs.YtohgjbkiemnfnaaW.PrintWords Go.Proofs.YtohgjbkiemnfnaaW.PrintLast Go.Proofs.YtohgjbkiemnfnaaW.PrintMore
attribute [local go_sem] Lab.str_gtr Lab.str_leq Lab.str_geq max2_int min2_int max_two min_two max_three min_three max_four min_four   -- for this text's walks alone
set_option linter.unusedVariables false
set_option linter.unusedSimpArgs false

/-! ### ferrulelaw13_AtomsChoices: function 6 -/
-- imports: Derived.Test.YtohgjbkiemnfnaaAtj
def ferrulelaw13_AtomsChoices.f (l0 : List Int) (l1 : List Bool) : Option Bool := some true
theorem ferrulelaw13_AtomsChoices.calls (A0 : Option Addr) (c0 : Nat) (l0 : List Int) (A1 : Option Addr) (c1 : Nat) (l1 : List Bool) (r : Bool) (w : World) (hr0 : Kd.C (Kd.int .i64) w A0 l0.length l0) (hc0 : l0.length ≤ c0) (hr1 : Kd.C Kd.bool w A1 l1.length l1) (hc1 : l1.length ≤ c1) (h : ferrulelaw13_AtomsChoices.f l0 l1 = some r) :
 Calls Try.prog 6 #[.slice A0 l0.length c0, .slice A1 l1.length c1] w fun e w' => e = .returned (.bool r) ∧ Below w.heap.size w w' := by
 obtain rfl := Option.some.inj h
 exact Ato.law3_calls A0 c0 l0 A1 c1 l1 w hr0 hc0 hr1 hc1

def ferrulelaw13_AtomsChoices.Pure : Prop := ∀ (l0 : List Int) (l1 : List Bool), l0.length ≤ maxLen → (∀ x ∈ l0, (Lit.int .i64 x).wf = true) → (fun l : (List Bool) => l.length ≤ maxLen ∧ ∀ x ∈ l, (fun _ : Bool => True) x) l1 → ferrulelaw13_AtomsChoices.f l0 l1 = some true

end Go.Proofs.Ytohgjbkiemnfnaa.X
