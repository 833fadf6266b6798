-- Written by a program of this session (wip/xp), out of the translation. Not trusted: Lean checks it.
import Derived.Test.YtildmfegfkiknaaDoorX0
-- shrunk
namespace Go.Proofs.YtildmfegfkiknaaDoor.X
open Go.RowKit Go.Proofs.YtildmfegfkiknaaDoorW.PrintWords Go.Proofs.YtildmfegfkiknaaDoorW.PrintLast Go.Proofs.YtildmfegfkiknaaDoorW.PrintMore
attribute [local go_sem] Lab.str_gtr Lab.str_leq Lab.str_geq max2_int min2_int max_two min_two max_three min_three max_four min_four   -- for this text's walks alone
set_option linter.unusedVariables false
set_option linter.unusedSimpArgs false

/-! ### ident_isByte: function 47 -/
def ident_isByte.f (a0 : Int) : Option (Bool) := if ((a0 - 48) % 256) < 10 then (some true) else (if (((Go.bits .or .u8 a0 32) - 97) % 256) < 26 then (some true) else (some (a0 == 45)))
set_option maxHeartbeats 8000000 in
set_option maxRecDepth 100000 in
theorem ident_isByte.calls (a0 : Int) (r : Bool) (w : World) (h : ident_isByte.f a0 = some r) :
  Calls Tryd.prog 47 #[.int .u8 a0] w fun e w' => e = .returned (.bool r) ∧ Drawn0 w w' := by
 have H : (if ((a0 - 48) % 256) < 10 then (some true) else (if (((Go.bits .or .u8 a0 32) - 97) % 256) < 26 then (some true) else (some (a0 == 45)))) = some r := h
 clear h
 by_cases c2 : ((a0 - 48) % 256) < 10
 ·rw [if_pos c2] at H
  have c2b0 : decide (((a0 - 48) % 256) < 10) = true := decide_eq_true c2
  clear c2
  obtain rfl := Option.some.inj H
  go_enter Tryd.func47, Tryd.ntmps47
  go_wp2
  go_ret
  exact ⟨by first | rfl | (simp; done) | (simp [*]; done) | (simp [bne]; done) | (unfold wrap64; simp_all; done) | (unfold wrap64; simp_all; omega), by repeat (first | exact Drawn0.refl _ | apply Drawn0.step)⟩
 ·rw [if_neg c2] at H
  have c2b0 : decide (((a0 - 48) % 256) < 10) = false := decide_eq_false c2
  clear c2
  by_cases c3 : (((Go.bits .or .u8 a0 32) - 97) % 256) < 26
  ·rw [if_pos c3] at H
   have c3b0 : decide ((((Go.bits .or .u8 a0 32) - 97) % 256) < 26) = true := decide_eq_true c3
   clear c3
   obtain rfl := Option.some.inj H
   go_enter Tryd.func47, Tryd.ntmps47
   go_wp2
   go_ret
   exact ⟨by first | rfl | (simp; done) | (simp [*]; done) | (simp [bne]; done) | (unfold wrap64; simp_all; done) | (unfold wrap64; simp_all; omega), by repeat (first | exact Drawn0.refl _ | apply Drawn0.step)⟩
  ·rw [if_neg c3] at H
   have c3b0 : decide ((((Go.bits .or .u8 a0 32) - 97) % 256) < 26) = false := decide_eq_false c3
   clear c3
   obtain rfl := Option.some.inj H
   go_enter Tryd.func47, Tryd.ntmps47
   go_wp2
   go_ret
   exact ⟨by first | rfl | (simp; done) | (simp [*]; done) | (simp [bne]; done) | (unfold wrap64; simp_all; done) | (unfold wrap64; simp_all; omega), by repeat (first | exact Drawn0.refl _ | apply Drawn0.step)⟩

end Go.Proofs.YtildmfegfkiknaaDoor.X
