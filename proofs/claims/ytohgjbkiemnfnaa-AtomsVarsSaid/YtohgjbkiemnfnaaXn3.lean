-- Written by a program of this session (wip/xp), out of the translation. Not trusted: Lean checks it.
import Derived.Test.YtohgjbkiemnfnaaX0
import Derived.Test.YtohgjbkiemnfnaaAty
-- shrunk
namespace Go.Proofs.Ytohgjbkiemnfnaa.X
open Go.RowKit Go.Proofs.YtohgjbkiemnfnaaW.PrintWords Go.Proofs.YtohgjbkiemnfnaaW.PrintLast Go.Proofs.YtohgjbkiemnfnaaW.PrintMore
attribute [local go_sem] Lab.str_gtr Lab.str_leq Lab.str_geq max2_int min2_int max_two min_two max_three min_three max_four min_four   -- for this text's walks alone
set_option linter.unusedVariables false
set_option linter.unusedSimpArgs false

/-! ### ferrulelaw13_AtomsVars: function 3 -/
-- imports: Derived.Test.YtohgjbkiemnfnaaAty
def ferrulelaw13_AtomsVars.f (l0 : List Int) (a1_0 : Int) (a1_1 : Int) (a1_2 : Int) (a2 : Int) : Option Bool := some true
theorem ferrulelaw13_AtomsVars.calls (A0 : Option Addr) (c0 : Nat) (l0 : List Int) (a1_0 : Int) (a1_1 : Int) (a1_2 : Int) (a2 : Int) (r : Bool) (w : World) (hr0 : Kd.C (Kd.int .i64) w A0 l0.length l0) (hc0 : l0.length ≤ c0) (h : ferrulelaw13_AtomsVars.f l0 a1_0 a1_1 a1_2 a2 = some r) :
 Calls Try.prog 3 #[.slice A0 l0.length c0, .agg #[.int .i64 a1_0, .int .i64 a1_1, .int .i64 a1_2], .int .i64 a2] w fun e w' => e = .returned (.bool r) ∧ Below w.heap.size w w' := by
 obtain rfl := Option.some.inj h
 exact Ato.law0_calls A0 c0 l0 ⟨a1_0, a1_1, a1_2⟩ a2 w hr0 hc0

def ferrulelaw13_AtomsVars.Pure : Prop := ∀ (l0 : List Int) (a1_0 : Int) (a1_1 : Int) (a1_2 : Int) (a2 : Int), l0.length ≤ maxLen → (∀ x ∈ l0, (Lit.int .i64 x).wf = true) → (Lit.int .i64 a1_0).wf = true → (Lit.int .i64 a1_1).wf = true → (Lit.int .i64 a1_2).wf = true → (Lit.int .i64 a2).wf = true → ferrulelaw13_AtomsVars.f l0 a1_0 a1_1 a1_2 a2 = some true

end Go.Proofs.Ytohgjbkiemnfnaa.X
