-- Written by a program of this session (wip/xp), out of the translation. Not trusted: Lean checks it.
import Derived.Test.YtohgjbkiemnfnaaR0
import Derived.Test.YtohgjbkiemnfnaaUl
-- shrunk
namespace Go.Proofs.Ytohgjbkiemnfnaa.R
open Go.RowKit Go.Proofs.YtohgjbkiemnfnaaW.PrintWords Go.Proofs.YtohgjbkiemnfnaaW.PrintLast Go.Proofs.YtohgjbkiemnfnaaW.PrintMore
attribute [local go_sem] Lab.str_gtr Lab.str_leq Lab.str_geq max2_int min2_int max_two min_two max_three min_three max_four min_four   -- for this text's walks alone
set_option linter.unusedVariables false
set_option linter.unusedSimpArgs false

/-! ### ferrulelaw22_RupPlays: function 13 -/
-- imports: Derived.Test.YtohgjbkiemnfnaaUl
def ferrulelaw22_RupPlays.f (l0 : List S88) (l1 : List Int) : Option Bool := some true
theorem ferrulelaw22_RupPlays.calls (A0 : Option Addr) (c0 : Nat) (l0 : List S88) (A1 : Option Addr) (c1 : Nat) (l1 : List Int) (r : Bool) (w : World) (hr0 : Kd.C k88 w A0 l0.length l0) (hc0 : l0.length ≤ c0) (hr1 : Kd.C (Kd.int .i64) w A1 l1.length l1) (hc1 : l1.length ≤ c1) (h : ferrulelaw22_RupPlays.f l0 l1 = some r) :
 Calls Try.prog 13 #[.slice A0 l0.length c0, .slice A1 l1.length c1] w fun e w' => e = .returned (.bool r) ∧ Below w.heap.size w w' := by
 obtain rfl := Option.some.inj h
 exact Rup.plays_calls hr0 hc0 hr1 hc1

def ferrulelaw22_RupPlays.Pure : Prop := ∀ (l0 : List (S88)) (l1 : List Int), (fun l : (List S88) => l.length ≤ maxLen ∧ ∀ x ∈ l, v88 x) l0 → l1.length ≤ maxLen → (∀ x ∈ l1, (Lit.int .i64 x).wf = true) → ferrulelaw22_RupPlays.f l0 l1 = some true

end Go.Proofs.Ytohgjbkiemnfnaa.R
