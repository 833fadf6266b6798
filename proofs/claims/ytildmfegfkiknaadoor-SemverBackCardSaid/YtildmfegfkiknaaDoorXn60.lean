-- Written by a program of this session (wip/xp), out of the translation. Not trusted: Lean checks it.
import Derived.Test.YtildmfegfkiknaaDoorX0
import Derived.Test.YtildmfegfkiknaaDoorXn15
-- shrunk
namespace Go.Proofs.YtildmfegfkiknaaDoor.X
open Go.RowKit Go.Proofs.YtildmfegfkiknaaDoorW.PrintWords Go.Proofs.YtildmfegfkiknaaDoorW.PrintLast Go.Proofs.YtildmfegfkiknaaDoorW.PrintMore
attribute [local go_sem] Lab.str_gtr Lab.str_leq Lab.str_geq max2_int min2_int max_two min_two max_three min_three max_four min_four   -- for this text's walks alone
set_option linter.unusedVariables false
set_option linter.unusedSimpArgs false

/-! ### semver_row: function 60 -/
def semver_row.f (k : Nat) (l0 : List Int) (a1 : Int) (a2 : Int) : Option (List ByteArray × Int × Int) := if a1 ≥ (l0.length : Int) then (some (([] : List ByteArray), a1, 0)) else (if 0 ≤ a1 then (if a1 < (l0.length : Int) then (if (rd l0 a1) = a2 then ((ident_Row.f k l0 (wrap64 (a1 + 1)) (a2 == 45)).bind fun bt102 => (some (bt102.1, wrap64 ((wrap64 (a1 + 1)) + bt102.2.1), bt102.2.2))) else (some (([] : List ByteArray), a1, 0))) else (none)) else (none))
theorem semver_row.mono : ∀ a0 a1 a2 k, LeO (semver_row.f k a0 a1 a2) (semver_row.f (k + 1) a0 a1 a2) := by
 intro a0 a1 a2 k
 unfold semver_row.f
 repeat' first
   | (with_reducible exact ident_Row.mono _ _ _ _)
   | (with_reducible exact LeO.refl _)
   | (with_reducible exact LeO.none _)
   | (with_reducible refine LeO.ite ?_ ?_)
   | (with_reducible refine LeO.bind ?_ (fun _ => ?_))
   | exact ident_Row.mono _ _ _ _
   | exact LeO.none _
   | refine LeO.ite ?_ ?_
   | refine LeO.bind ?_ (fun _ => ?_)
set_option maxHeartbeats 8000000 in
set_option maxRecDepth 100000 in
theorem semver_row.calls (k : Nat) (A0 : Option Addr) (c0 : Nat) (l0 : List Int) (a1 : Int) (a2 : Int) (r1 : List ByteArray) (r2 : Int) (r3 : Int) (w : World) (hr0 : Kd.C (Kd.int .u8) w A0 l0.length l0) (hc0 : l0.length ≤ c0) (h : semver_row.f k l0 a1 a2 = some (r1, r2, r3)) :
  Calls Tryd.prog 60 #[.slice A0 l0.length c0, .int .i64 a1, .int .u8 a2] w fun e w' => ∃ v0_ : Value, e = .returned (.tuple #[v0_, .int .i64 r2, .int .i64 r3]) ∧ Kd.R Kd.string 9 w' w.heap.size (fun _ => True) v0_ r1 ∧ Below w.heap.size w w' := by
 have HR0 := Aside0.mk hr0
 have HC0 := Aside0.mk hc0
 clear hr0 hc0
 have HB := Aside0.mk (Below.refl w.heap.size w)
 have H : (if a1 ≥ (l0.length : Int) then (some (([] : List ByteArray), a1, 0)) else (if 0 ≤ a1 then (if a1 < (l0.length : Int) then (if (rd l0 a1) = a2 then ((ident_Row.f k l0 (wrap64 (a1 + 1)) (a2 == 45)).bind fun bt102 => (some (bt102.1, wrap64 ((wrap64 (a1 + 1)) + bt102.2.1), bt102.2.2))) else (some (([] : List ByteArray), a1, 0))) else (none)) else (none))) = some (r1, r2, r3) := h
 clear h
 by_cases c4 : a1 ≥ (l0.length : Int)
 ·rw [if_pos c4] at H
  have c4b0 : decide ((l0.length : Int) ≤ a1) = true := decide_eq_true c4
  clear c4
  simp only [Option.some.injEq, Prod.mk.injEq] at H
  obtain ⟨rfl, rfl, rfl⟩ := H
  go_enter Tryd.func60, Tryd.ntmps60
  go_wp2
  go_ret3
  exact ⟨_, by first | rfl | (simp [errW_none, errW_some] <;> rfl) | (simp [*, errW_none, errW_some] <;> rfl), by first | exact Kd.R_nil _ _ _ _ _ | exact Kd.N_nil _ _ _ _ _ | exact Kd.V_nil _ _ _ _ _ | exact Kd.Q_nil _ _ _ _ _ | exact Kd.S_nil _ _ _ _ _, bB⟩
 ·rw [if_neg c4] at H
  have c4b0 : decide ((l0.length : Int) ≤ a1) = false := decide_eq_false c4
  clear c4
  by_cases c5 : 0 ≤ a1
  ·rw [if_pos c5] at H
   have c5b0 : decide (0 ≤ a1) = true := decide_eq_true c5
   clear c5
   by_cases c6 : a1 < (l0.length : Int)
   ·rw [if_pos c6] at H
    have c6b0 : decide (a1 < (l0.length : Int)) = true := decide_eq_true c6
    clear c6
    by_cases c7 : (rd l0 a1) = a2
    ·rw [if_pos c7] at H
     have c7b0 : ((rd l0 a1) == a2) = true := beq_iff_eq.mpr c7
     have c7b1 : ((rd l0 a1) != a2) = false := bne_eq_false_iff_eq.mpr c7
     clear c7
     replace H := Option.bind_eq_some_iff.mp H
     obtain ⟨⟨t102, t103, t104⟩, A80, H⟩ := H
     replace H : (some (t102, wrap64 ((wrap64 (a1 + 1)) + t103), t104)) = some (r1, r2, r3) := H
     have A8 := Aside0.mk A80
     clear A80
     simp only [Option.some.injEq, Prod.mk.injEq] at H
     obtain ⟨rfl, rfl, rfl⟩ := H
     have p101 : 0 ≤ (a1 : Int) := oD
     have q101 : a1 < (l0.length : Int) := oD
     obtain ⟨ad101, e101, hx101_0⟩ := Kd.at_int HR0.out a1 p101 q101
     cases e101
     replace p101 := eq_true p101
     replace q101 := eq_true q101
     go_enter Tryd.func60, Tryd.ntmps60
     go_wp2_with (first | ((with_reducible refine gate_callee (f := 15) rfl ?_); refine goesL_ (some 29) rfl rfl Tryd.func15 (by kernel_rfl) rfl #[.slice (some ad101) l0.length c0, .int .i64 (wrap64 (a1 + 1)), .bool (a2 == 45)] rfl bM ?_; (with_reducible refine (ident_Row.calls k _ _ l0 (wrap64 (a1 + 1)) (a2 == 45) t102 t103 t104 _ ?side1 ?side2 A8.out).mono ?_); (case side1 => repeat (first | exact HR0.out | (with_reducible refine Kd.C_alloc ?_ _) | (with_reducible refine Kd.C_drewN ?_ _) | (with_reducible refine Kd.C_drew ?_))); (case side2 => exact HC0.out); rintro e w9 ⟨v105, rfl, ho0, hb⟩; refine ⟨_, rfl, ?_⟩; have HO106 := aL ho0 HB; replace HB := aB HB hb; (try clear hb); (try clear hb2); (try clear hk); (try clear hi); (try clear ho0)))
     go_ret3
     exact ⟨_, by first | rfl | (simp [errW_none, errW_some] <;> rfl) | (simp [*, errW_none, errW_some] <;> rfl), aRw HO106, bB⟩
    ·rw [if_neg c7] at H
     have c7b0 : ((rd l0 a1) == a2) = false := beq_eq_false_iff_ne.mpr c7
     have c7b1 : ((rd l0 a1) != a2) = true := bne_iff_ne.mpr c7
     simp only [Option.some.injEq, Prod.mk.injEq] at H
     obtain ⟨rfl, rfl, rfl⟩ := H
     have p101 : 0 ≤ (a1 : Int) := oD
     have q101 : a1 < (l0.length : Int) := oD
     obtain ⟨ad101, e101, hx101_0⟩ := Kd.at_int HR0.out a1 p101 q101
     cases e101
     replace p101 := eq_true p101
     replace q101 := eq_true q101
     go_enter Tryd.func60, Tryd.ntmps60
     go_wp2
     go_ret3
     exact ⟨_, by first | rfl | (simp [errW_none, errW_some] <;> rfl) | (simp [*, errW_none, errW_some] <;> rfl), by first | exact Kd.R_nil _ _ _ _ _ | exact Kd.N_nil _ _ _ _ _ | exact Kd.V_nil _ _ _ _ _ | exact Kd.Q_nil _ _ _ _ _ | exact Kd.S_nil _ _ _ _ _, bB⟩
   ·rw [if_neg c6] at H
    exact absurd H (by simp)
  ·rw [if_neg c5] at H
   exact absurd H (by simp)

end Go.Proofs.YtildmfegfkiknaaDoor.X
