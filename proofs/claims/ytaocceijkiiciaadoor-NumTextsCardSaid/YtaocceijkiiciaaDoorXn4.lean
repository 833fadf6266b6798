-- Written by a program of this session (wip/xp), out of the translation. Not trusted: Lean checks it.
import Derived.Test.YtaocceijkiiciaaDoorTab
import Derived.Test.YtaocceijkiiciaaDoorX0
import Derived.Test.YtaocceijkiiciaaDoorXn7
import Derived.Test.YtaocceijkiiciaaDoorXn8
import Derived.Test.YtaocceijkiiciaaDoorXn12
-- shrunk
namespace Go.Proofs.YtaocceijkiiciaaDoor.X
open Go.RowKit Go.Proofs.YtaocceijkiiciaaDoorW.PrintWords Go.Proofs.YtaocceijkiiciaaDoorW.PrintLast Go.Proofs.YtaocceijkiiciaaDoorW.PrintMore
attribute [local go_sem] Lab.str_gtr Lab.str_leq Lab.str_geq max2_int min2_int max_two min_two max_three min_three max_four min_four   -- for this text's walks alone
set_option linter.unusedVariables false
set_option linter.unusedSimpArgs false

/-! ### ferrulelaw01_NumOrders: function 4 -/
def ferrulelaw01_NumOrders.f (k : Nat) (a0 : Int) (a1 : Int) : Option (Bool) := (ferrulelaw01_awake.f k).bind fun t101 => (if t101 = true then ((num_Text.f a0).bind fun t102 => ((num_Text.f a1).bind fun t103 => ((num_Compare.f k t102 t103).bind fun t104 => (if ((decide (t104 < 0)) == (decide (a0 < a1))) = true then (some ((decide (t104 > 0)) == (decide (a0 > a1)))) else (some false))))) else (some false))
theorem ferrulelaw01_NumOrders.mono : ∀ a0 a1 k, LeO (ferrulelaw01_NumOrders.f k a0 a1) (ferrulelaw01_NumOrders.f (k + 1) a0 a1) := by
 intro a0 a1 k
 unfold ferrulelaw01_NumOrders.f
 repeat' first
   | (with_reducible exact ferrulelaw01_awake.mono _)
   | (with_reducible exact num_Compare.mono _ _ _)
   | (with_reducible exact LeO.refl _)
   | (with_reducible exact LeO.none _)
   | (with_reducible refine LeO.ite ?_ ?_)
   | (with_reducible refine LeO.bind ?_ (fun _ => ?_))
   | exact ferrulelaw01_awake.mono _
   | exact num_Compare.mono _ _ _
   | exact LeO.none _
   | refine LeO.ite ?_ ?_
   | refine LeO.bind ?_ (fun _ => ?_)
set_option maxHeartbeats 8000000 in
set_option maxRecDepth 100000 in
theorem ferrulelaw01_NumOrders.calls (k : Nat) (a0 : Int) (a1 : Int) (r : Bool) (w : World) (h : ferrulelaw01_NumOrders.f k a0 a1 = some r) (TT : Tab w) :
  Calls Tryd.prog 4 #[.int .u64 a0, .int .u64 a1] w fun e w' => e = .returned (.bool r) ∧ Below w.heap.size w w' := by
 have HB := Aside0.mk (Below.refl w.heap.size w)
 have H : ((ferrulelaw01_awake.f k).bind fun t101 => (if t101 = true then ((num_Text.f a0).bind fun t102 => ((num_Text.f a1).bind fun t103 => ((num_Compare.f k t102 t103).bind fun t104 => (if ((decide (t104 < 0)) == (decide (a0 < a1))) = true then (some ((decide (t104 > 0)) == (decide (a0 > a1)))) else (some false))))) else (some false))) = some r := h
 clear h
 replace H := Option.bind_eq_some_iff.mp H
 obtain ⟨t101, A30, H⟩ := H
 replace H : (if t101 = true then ((num_Text.f a0).bind fun t102 => ((num_Text.f a1).bind fun t103 => ((num_Compare.f k t102 t103).bind fun t104 => (if ((decide (t104 < 0)) == (decide (a0 < a1))) = true then (some ((decide (t104 > 0)) == (decide (a0 > a1)))) else (some false))))) else (some false)) = some r := H
 have A3 := Aside0.mk A30
 clear A30
 by_cases c4 : t101 = true
 ·subst c4
  have H1 : ((num_Text.f a0).bind fun t102 => ((num_Text.f a1).bind fun t103 => ((num_Compare.f k t102 t103).bind fun t104 => (if ((decide (t104 < 0)) == (decide (a0 < a1))) = true then (some ((decide (t104 > 0)) == (decide (a0 > a1)))) else (some false))))) = some r := by rw [if_pos rfl] at H; exact H
  clear H
  have H := H1
  clear H1
  replace H := Option.bind_eq_some_iff.mp H
  obtain ⟨t102, A50, H⟩ := H
  replace H : ((num_Text.f a1).bind fun t103 => ((num_Compare.f k t102 t103).bind fun t104 => (if ((decide (t104 < 0)) == (decide (a0 < a1))) = true then (some ((decide (t104 > 0)) == (decide (a0 > a1)))) else (some false)))) = some r := H
  have A5 := Aside0.mk A50
  clear A50
  replace H := Option.bind_eq_some_iff.mp H
  obtain ⟨t103, A60, H⟩ := H
  replace H : ((num_Compare.f k t102 t103).bind fun t104 => (if ((decide (t104 < 0)) == (decide (a0 < a1))) = true then (some ((decide (t104 > 0)) == (decide (a0 > a1)))) else (some false))) = some r := H
  have A6 := Aside0.mk A60
  clear A60
  replace H := Option.bind_eq_some_iff.mp H
  obtain ⟨t104, A70, H⟩ := H
  replace H : (if ((decide (t104 < 0)) == (decide (a0 < a1))) = true then (some ((decide (t104 > 0)) == (decide (a0 > a1)))) else (some false)) = some r := H
  have A7 := Aside0.mk A70
  clear A70
  by_cases c8 : ((decide (t104 < 0)) == (decide (a0 < a1))) = true
  ·rw [if_pos c8] at H
   have c8b0 : ((decide (t104 < 0)) == (decide (a0 < a1))) = true := c8
   (try (have c8b1 : decide ((decide (t104 < 0)) = (decide (a0 < a1))) = true := by simpa using c8))
   (try (have c8b2 : ((decide (t104 < 0)) == (decide (a0 < a1))) = true := by simpa using c8))
   clear c8
   obtain rfl := Option.some.inj H
   go_enter Tryd.func4, Tryd.ntmps4
   go_wp2_with (first | ((with_reducible refine gate_callee (f := 7) rfl ?_); refine goesL_ (some 6) rfl rfl Tryd.func7 (by kernel_rfl) rfl #[] rfl bM ?_; (with_reducible refine (ferrulelaw01_awake.calls k  true _ A3.out).mono ?_); rintro e w9 ⟨rfl, hb⟩; refine ⟨_, rfl, ?_⟩; replace HB := aB HB hb; (try clear hb); (try clear hb2); (try clear hk); (try clear hi)) | ((with_reducible refine gate_callee (f := 8) rfl ?_); refine goesL_ (some 9) rfl rfl Tryd.func8 (by kernel_rfl) rfl #[.int .u64 a0] rfl bM ?_; (with_reducible refine (num_Text.calls a0 t102 _ A5.out (tB TT HB)).mono ?_); rintro e w10 ⟨rfl, hb⟩; refine ⟨_, rfl, ?_⟩; replace HB := aB HB hb; (try clear hb); (try clear hb2); (try clear hk); (try clear hi)) | ((with_reducible refine gate_callee (f := 8) rfl ?_); refine goesL_ (some 11) rfl rfl Tryd.func8 (by kernel_rfl) rfl #[.int .u64 a1] rfl bM ?_; (with_reducible refine (num_Text.calls a1 t103 _ A6.out (tB TT HB)).mono ?_); rintro e w11 ⟨rfl, hb⟩; refine ⟨_, rfl, ?_⟩; replace HB := aB HB hb; (try clear hb); (try clear hb2); (try clear hk); (try clear hi)) | ((with_reducible refine gate_callee (f := 12) rfl ?_); refine goesL_ (some 12) rfl rfl Tryd.func12 (by kernel_rfl) rfl #[.string t102, .string t103] rfl bM ?_; (with_reducible refine (num_Compare.calls k t102 t103 t104 _ A7.out).mono ?_); rintro e w' ⟨rfl, ⟨nd, rfl⟩⟩; refine ⟨_, rfl, ?_⟩))
   go_ret
   exact ⟨by first | rfl | (simp [errW_none, errW_some] <;> rfl) | (simp [*, errW_none, errW_some] <;> rfl), bB⟩
  ·rw [if_neg c8] at H
   have c8b0 : ((decide (t104 < 0)) == (decide (a0 < a1))) = false := by simpa using c8
   (try (have c8b1 : decide ((decide (t104 < 0)) = (decide (a0 < a1))) = false := by simpa using c8))
   (try (have c8b2 : ((decide (t104 < 0)) == (decide (a0 < a1))) = false := by simpa using c8))
   (try (have c8b3 : ¬ ((decide (t104 < 0)) = (decide (a0 < a1))) := by simpa using c8))
   clear c8
   obtain rfl := Option.some.inj H
   go_enter Tryd.func4, Tryd.ntmps4
   go_wp2_with (first | ((with_reducible refine gate_callee (f := 7) rfl ?_); refine goesL_ (some 6) rfl rfl Tryd.func7 (by kernel_rfl) rfl #[] rfl bM ?_; (with_reducible refine (ferrulelaw01_awake.calls k  true _ A3.out).mono ?_); rintro e w12 ⟨rfl, hb⟩; refine ⟨_, rfl, ?_⟩; replace HB := aB HB hb; (try clear hb); (try clear hb2); (try clear hk); (try clear hi)) | ((with_reducible refine gate_callee (f := 8) rfl ?_); refine goesL_ (some 9) rfl rfl Tryd.func8 (by kernel_rfl) rfl #[.int .u64 a0] rfl bM ?_; (with_reducible refine (num_Text.calls a0 t102 _ A5.out (tB TT HB)).mono ?_); rintro e w13 ⟨rfl, hb⟩; refine ⟨_, rfl, ?_⟩; replace HB := aB HB hb; (try clear hb); (try clear hb2); (try clear hk); (try clear hi)) | ((with_reducible refine gate_callee (f := 8) rfl ?_); refine goesL_ (some 11) rfl rfl Tryd.func8 (by kernel_rfl) rfl #[.int .u64 a1] rfl bM ?_; (with_reducible refine (num_Text.calls a1 t103 _ A6.out (tB TT HB)).mono ?_); rintro e w14 ⟨rfl, hb⟩; refine ⟨_, rfl, ?_⟩; replace HB := aB HB hb; (try clear hb); (try clear hb2); (try clear hk); (try clear hi)) | ((with_reducible refine gate_callee (f := 12) rfl ?_); refine goesL_ (some 12) rfl rfl Tryd.func12 (by kernel_rfl) rfl #[.string t102, .string t103] rfl bM ?_; (with_reducible refine (num_Compare.calls k t102 t103 t104 _ A7.out).mono ?_); rintro e w' ⟨rfl, ⟨nd, rfl⟩⟩; refine ⟨_, rfl, ?_⟩))
   go_ret
   exact ⟨by first | rfl | (simp [errW_none, errW_some] <;> rfl) | (simp [*, errW_none, errW_some] <;> rfl), bB⟩
 ·replace c4 := Bool.eq_false_iff.mpr c4
  subst c4
  have H1 : (some false) = some r := by rw [if_neg (show ¬ (false = true) by decide)] at H; exact H
  clear H
  have H := H1
  clear H1
  obtain rfl := Option.some.inj H
  go_enter Tryd.func4, Tryd.ntmps4
  go_wp2_with (first | ((with_reducible refine gate_callee (f := 7) rfl ?_); refine goesL_ (some 6) rfl rfl Tryd.func7 (by kernel_rfl) rfl #[] rfl bM ?_; (with_reducible refine (ferrulelaw01_awake.calls k  false _ A3.out).mono ?_); rintro e w15 ⟨rfl, hb⟩; refine ⟨_, rfl, ?_⟩; replace HB := aB HB hb; (try clear hb); (try clear hb2); (try clear hk); (try clear hi)))
  go_ret
  exact ⟨by first | rfl | (simp [errW_none, errW_some] <;> rfl) | (simp [*, errW_none, errW_some] <;> rfl), bB⟩

def ferrulelaw01_NumOrders.Pure : Prop := ∀ (a0 : Int) (a1 : Int), (Lit.int .u64 a0).wf = true → (Lit.int .u64 a1).wf = true → ∃ k, ferrulelaw01_NumOrders.f k a0 a1 = some true

end Go.Proofs.YtaocceijkiiciaaDoor.X
