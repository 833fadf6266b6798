-- Written by a program of this session (wip/xp), out of the translation. Not trusted: Lean checks it.
import Derived.Test.YtohgjbkiemnfnaaX0
import Derived.Test.YtohgjbkiemnfnaaXn66
import Derived.Test.YtohgjbkiemnfnaaXn77
import Derived.BigQuiet
import Derived.Deep.QuietTactic
import Derived.Test.YtohgjbkiemnfnaaFun
import Derived.Test.YtohgjbkiemnfnaaLayFn
-- shrunk
namespace Go.Proofs.Ytohgjbkiemnfnaa.X
open Go.RowKit Go.Proofs.YtohgjbkiemnfnaaW.PrintWords Go.Proofs.YtohgjbkiemnfnaaW.PrintLast Go.Proofs.YtohgjbkiemnfnaaW.PrintMore
attribute [local go_sem] Lab.str_gtr Lab.str_leq Lab.str_geq max2_int min2_int max_two min_two max_three min_three max_four min_four   -- for this text's walks alone
set_option linter.unusedVariables false
set_option linter.unusedSimpArgs false

/-! ### clause_Fails: function 39 -/
-- imports: Derived.Test.YtohgjbkiemnfnaaLayFn Derived.Test.YtohgjbkiemnfnaaFun Derived.BigQuiet Derived.Deep.QuietTactic
/-- A literal's truth. -/
def clause_Fails.tr (x : Int) (a : List Bool) : Int := if clause_abs.p x = 0 ∨ clause_abs.p x > (a.length : Int) then 0 else if (a.getD (clause_abs.p x - 1).toNat false == decide (x > 0)) = true then 1 else -1
theorem clause_Fails.abs_bounds (x : Int) : 0 ≤ clause_abs.p x ∧ clause_abs.p x ≤ 16777216 := by unfold clause_abs.p; (repeat' split) <;> omega
theorem clause_Fails.truth (x : Int) (a : List Bool) : clause_truth.f 1 x a = some (clause_Fails.tr x a) := by
 have hb := clause_Fails.abs_bounds x
 unfold clause_truth.f clause_Fails.tr
 rw [show clause_abs.f x = some (clause_abs.p x) from rfl, Option.bind_some]
 generalize clause_abs.p x = v at hb ⊢
 by_cases h0 : v = 0
 ·rw [if_pos h0, if_pos (.inl h0)]
  rw [clause_truth.j0, if_pos rfl]
 ·rw [if_neg h0, clause_truth.j0]
  by_cases h1 : v > (a.length : Int)
  ·rw [if_pos (decide_eq_true h1), if_pos (.inr h1)]
  ·rw [decide_eq_false h1, if_neg (by simp), if_neg (show ¬ (v = 0 ∨ v > (a.length : Int)) by omega), show wrap64 (v - 1) = v - 1 by unfold wrap64; omega, if_pos (by omega), if_pos (by omega)]
   rw [show rdOf false a (v - 1) = a.getD (v - 1).toNat false from rfl]
   split <;> rfl
def clause_Fails.f (l0 : List Int) (l1 : List Bool) : Option Bool := some (!(l0.any fun x => decide (clause_Fails.tr x l1 ≥ 0)))
theorem clause_Fails.clo (x : Int) (A1 : Option Addr) (c1 : Nat) (l1 : List Bool) (B : Nat) (W : World) (hc : W.cell? ⟨B, 0, none⟩ = some (.slice A1 l1.length c1)) (hr1 : Kd.C Kd.bool W A1 l1.length l1) (hc1 : l1.length ≤ c1) :
 Calls Try.prog 78 (#[.int .i64 x] ++ #[.pointer (some ⟨B, 0, none⟩)]) W fun e W' => e = .returned (.bool (decide (clause_Fails.tr x l1 ≥ 0))) ∧ Below W.heap.size W W' := by
 have ht := clause_truth.calls 1 x A1 c1 l1 _ W hr1 hc1 (clause_Fails.truth x l1)
 generalize clause_Fails.tr x l1 = v at ht ⊢
 have HR := Aside0.mk hr1
 clear hr1
 show Calls Try.prog 78 #[.int .i64 x, .pointer (some ⟨B, 0, none⟩)] W _
 go_enter Try.func78, Try.ntmps78
 go_wp2_with (go_at_call 77; refine ht.mono ?_; rintro e w' ⟨rfl, hd⟩)
 go_ret
 refine ⟨by simp, ?_⟩
 first | exact hd.below | exact hd
theorem clause_Fails.calls (A0 : Option Addr) (c0 : Nat) (l0 : List Int) (A1 : Option Addr) (c1 : Nat) (l1 : List Bool) (r : Bool) (w : World) (hr0 : Kd.C (Kd.int .i64) w A0 l0.length l0) (hc0 : l0.length ≤ c0) (hr1 : Kd.C Kd.bool w A1 l1.length l1) (hc1 : l1.length ≤ c1) (h : clause_Fails.f l0 l1 = some r) :
 Calls Try.prog 39 #[.slice A0 l0.length c0, .slice A1 l1.length c1] w fun e w' => e = .returned (.bool r) ∧ Below w.heap.size w w' := by
 obtain rfl := Option.some.inj h
 clear h
 have eg : ∀ args w, (callFunc 78 args).run Try.prog w = .ok (.enter 78 args) w := enters_of Try.func78 (by kernel_rfl) rfl
 have hcon := Fun.contains_func Try.contains_int (Kd.int .i64) rfl (fun x => decide (clause_Fails.tr x l1 ≥ 0)) 78 #[.pointer (some ⟨w.heap.size, 0, none⟩)] eg A0 c0 l0 (w.alloc (.cells #[.slice A1 l1.length c1] 38)) (Kd.C_alloc hr0 _)
  (fun x _ u hu W hb => by have hu' : [u] = [Value.int .i64 x] := hu; obtain rfl := (List.cons.inj hu').1; exact clause_Fails.clo x A1 c1 l1 w.heap.size W ((hb.cell (p := ⟨w.heap.size, 0, none⟩) (by simp)).trans (by simp)) (Kd.C_below (Kd.C_alloc hr1 _) hb) hc1)
 change Calls Try.prog 74 _ _ _ at hcon
 clear hr0 hr1
 generalize (l0.any fun x => decide (clause_Fails.tr x l1 ≥ 0)) = b at hcon ⊢
 go_enter Try.func39, Try.ntmps39
 go_wp2_with (go_at_call 74; refine hcon.mono ?_; rintro e w' ⟨rfl, hb⟩)
 go_ret
 exact ⟨rfl, below_step (below_alloc (Below.refl _ _) _) hb⟩

end Go.Proofs.Ytohgjbkiemnfnaa.X
