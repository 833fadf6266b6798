-- Written by a program of this session (wip/xp), out of the translation. Not trusted: Lean checks it.
import Derived.Test.YtohgjbkiemnfnaaR0
import Derived.WalkLawsBesides
-- shrunk
namespace Go.Proofs.Ytohgjbkiemnfnaa.R
open Go.RowKit Go.Proofs.YtohgjbkiemnfnaaW.PrintWords Go.Proofs.YtohgjbkiemnfnaaW.PrintLast Go.Proofs.YtohgjbkiemnfnaaW.PrintMore
attribute [local go_sem] Lab.str_gtr Lab.str_leq Lab.str_geq max2_int min2_int max_two min_two max_three min_three max_four min_four   -- for this text's walks alone
set_option linter.unusedVariables false
set_option linter.unusedSimpArgs false

/-! ### clause_abs: function 66 -/
-- imports: Derived.WalkLawsBesides
def clause_abs.p (x : Int) : Int := if x < -16777216 then 0 else if x > 16777216 then 0 else if x < 0 then -x else x
def clause_abs.f (a0 : Int) : Option Int := some (clause_abs.p a0)
theorem clause_abs.calls (a0 : Int) (r : Int) (w : World) (h : clause_abs.f a0 = some r) :
 Calls Try.prog 66 #[.int .i64 a0] w fun e w' => e = .returned (.int .i64 r) ∧ Drawn0 w w' := by
 obtain rfl := Option.some.inj h
 clear h
 unfold clause_abs.p
 by_cases h1 : a0 < -16777216
 ·rw [if_pos h1]
  go_enter Try.func66, Try.ntmps66
  go_wp2
  go_ret
  exact ⟨rfl, Drawn0.refl _⟩
 ·rw [if_neg h1]
  by_cases h2 : a0 > 16777216
  ·rw [if_pos h2]
   go_enter Try.func66, Try.ntmps66
   go_wp2
   go_ret
   exact ⟨rfl, Drawn0.refl _⟩
  ·rw [if_neg h2]
   go_enter Try.func66, Try.ntmps66
   go_wp2
   all_goals (go_ret; refine ⟨congrArg (fun z => Ending.returned (Value.int .i64 z)) ?_, Drawn0.refl _⟩)
   all_goals ((try split) <;> omega)

end Go.Proofs.Ytohgjbkiemnfnaa.R
