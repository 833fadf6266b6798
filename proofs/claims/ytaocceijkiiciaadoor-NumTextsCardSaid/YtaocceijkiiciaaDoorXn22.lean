-- Written by a program of this session (wip/xp), out of the translation. Not trusted: Lean checks it.
import Derived.Test.YtaocceijkiiciaaDoorX0
-- shrunk
namespace Go.Proofs.YtaocceijkiiciaaDoor.X
open Go.RowKit Go.Proofs.YtaocceijkiiciaaDoorW.PrintWords Go.Proofs.YtaocceijkiiciaaDoorW.PrintLast Go.Proofs.YtaocceijkiiciaaDoorW.PrintMore
attribute [local go_sem] Lab.str_gtr Lab.str_leq Lab.str_geq max2_int min2_int max_two min_two max_three min_three max_four min_four   -- for this text's walks alone
set_option linter.unusedVariables false
set_option linter.unusedSimpArgs false

/-! ### num_digit: function 22 -/
def num_digit.f (a0 : Int) : Option (Bool) := some (decide (((a0 - 48) % 256) < 10))
set_option maxHeartbeats 8000000 in
set_option maxRecDepth 100000 in
theorem num_digit.calls (a0 : Int) (r : Bool) (w : World) (h : num_digit.f a0 = some r) :
  Calls Tryd.prog 22 #[.int .u8 a0] w fun e w' => e = .returned (.bool r) ∧ Drawn0 w w' := by
 have H : (some (decide (((a0 - 48) % 256) < 10))) = some r := h
 clear h
 obtain rfl := Option.some.inj H
 go_enter Tryd.func22, Tryd.ntmps22
 go_wp2
 go_ret
 exact ⟨by first | rfl | (simp; done) | (simp [*]; done) | (simp [bne]; done) | (unfold wrap64; simp_all; done) | (unfold wrap64; simp_all; omega), by repeat (first | exact Drawn0.refl _ | apply Drawn0.step)⟩

end Go.Proofs.YtaocceijkiiciaaDoor.X
