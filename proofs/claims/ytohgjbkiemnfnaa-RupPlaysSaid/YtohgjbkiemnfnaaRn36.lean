-- Written by a program of this session (wip/xp), out of the translation. Not trusted: Lean checks it.
import Derived.Test.YtohgjbkiemnfnaaR0
import Derived.Test.YtohgjbkiemnfnaaRn66
import Derived.BigQuiet
import Derived.Deep.QuietTactic
import Derived.Test.YtohgjbkiemnfnaaFun
import Derived.Test.YtohgjbkiemnfnaaLayFn
-- shrunk
namespace Go.Proofs.Ytohgjbkiemnfnaa.R
open Go.RowKit Go.Proofs.YtohgjbkiemnfnaaW.PrintWords Go.Proofs.YtohgjbkiemnfnaaW.PrintLast Go.Proofs.YtohgjbkiemnfnaaW.PrintMore
attribute [local go_sem] Lab.str_gtr Lab.str_leq Lab.str_geq max2_int min2_int max_two min_two max_three min_three max_four min_four   -- for this text's walks alone
set_option linter.unusedVariables false
set_option linter.unusedSimpArgs false

/-! ### clause_Good: function 36 -/
-- imports: Derived.Test.YtohgjbkiemnfnaaLayFn Derived.Test.YtohgjbkiemnfnaaFun Derived.BigQuiet Derived.Deep.QuietTactic
def clause_Good.p (vars x : Int) : Bool := (clause_abs.p x == 0) || decide (clause_abs.p x > vars)
def clause_Good.f (l0 : List Int) (a1 : Int) : Option Bool := some (!(l0.any (clause_Good.p a1)))
theorem clause_Good.clo (x vars : Int) (B : Nat) (W : World) (hc : W.cell? ⟨B, 0, none⟩ = some (.int .i64 vars)) :
 Calls Try.prog 75 (#[.int .i64 x] ++ #[.pointer (some ⟨B, 0, none⟩)]) W fun e W' => e = .returned (.bool (clause_Good.p vars x)) ∧ Below W.heap.size W W' := by
 unfold clause_Good.p
 have ha := fun W => clause_abs.calls x _ W rfl
 generalize clause_abs.p x = v at ha ⊢
 show Calls Try.prog 75 #[.int .i64 x, .pointer (some ⟨B, 0, none⟩)] W _
 by_cases h0 : v = 0
 ·have e0 : (v == 0) = true := beq_iff_eq.mpr h0
  go_enter Try.func75, Try.ntmps75
  go_wp2
  go_quiet (first | (go_at_call 66; refine Fun.quiet_drawn (ha _)))
  go_wp2
  go_ret
  exact ⟨by simp [h0], below_drewN' (Below.refl _ _) _⟩
 ·have e0 : (v == 0) = false := beq_eq_false_iff_ne.mpr h0
  go_enter Try.func75, Try.ntmps75
  go_wp2
  go_quiet (first | (go_at_call 66; refine Fun.quiet_drawn (ha _)))
  go_wp2
  go_ret
  exact ⟨by simp [e0], below_drewN' (Below.refl _ _) _⟩
theorem clause_Good.calls (A0 : Option Addr) (c0 : Nat) (l0 : List Int) (a1 : Int) (r : Bool) (w : World) (hr0 : Kd.C (Kd.int .i64) w A0 l0.length l0) (hc0 : l0.length ≤ c0) (h : clause_Good.f l0 a1 = some r) :
 Calls Try.prog 36 #[.slice A0 l0.length c0, .int .i64 a1] w fun e w' => e = .returned (.bool r) ∧ Below w.heap.size w w' := by
 obtain rfl := Option.some.inj h
 clear h
 have eg : ∀ args w, (callFunc 75 args).run Try.prog w = .ok (.enter 75 args) w := enters_of Try.func75 (by kernel_rfl) rfl
 have hcon := Fun.contains_func Try.contains_int (Kd.int .i64) rfl (clause_Good.p a1) 75 #[.pointer (some ⟨w.heap.size, 0, none⟩)] eg A0 c0 l0 (w.alloc (.cells #[.int .i64 a1] 3)) (Kd.C_alloc hr0 _)
  (fun x _ u hu W hb => by have hu' : [u] = [Value.int .i64 x] := hu; obtain rfl := (List.cons.inj hu').1; exact clause_Good.clo x a1 w.heap.size W ((hb.cell (p := ⟨w.heap.size, 0, none⟩) (by simp)).trans (by simp)))
 change Calls Try.prog 74 _ _ _ at hcon
 clear hr0
 generalize l0.any (clause_Good.p a1) = b at hcon ⊢
 go_enter Try.func36, Try.ntmps36
 go_wp2_with (go_at_call 74; refine hcon.mono ?_; rintro e w' ⟨rfl, hb⟩)
 go_ret
 exact ⟨rfl, below_step (below_alloc (Below.refl _ _) _) hb⟩

end Go.Proofs.Ytohgjbkiemnfnaa.R
