-- Written by a program of this session (wip/xp), out of the translation. Not trusted: Lean checks it.
import Derived.Test.YtohgjbkiemnfnaaR0
import Derived.Test.YtohgjbkiemnfnaaRn72
-- shrunk
namespace Go.Proofs.Ytohgjbkiemnfnaa.R
open Go.RowKit Go.Proofs.YtohgjbkiemnfnaaW.PrintWords Go.Proofs.YtohgjbkiemnfnaaW.PrintLast Go.Proofs.YtohgjbkiemnfnaaW.PrintMore
attribute [local go_sem] Lab.str_gtr Lab.str_leq Lab.str_geq max2_int min2_int max_two min_two max_three min_three max_four min_four   -- for this text's walks alone
set_option linter.unusedVariables false
set_option linter.unusedSimpArgs false

/-! ### ferruleref12_Truth: function 79 -/
def ferruleref12_Truth.j0 : Nat → Int → List Bool → Int → Bool → Option (Int)
 | 0, _, _, _, _ => none
 | k + 1, x0, x1, x5, x15 => if x15 = true then (some 0) else (if 0 ≤ (wrap64 (x5 - 1)) then (if (wrap64 (x5 - 1)) < (x1.length : Int) then (if ((rdOf false x1 (wrap64 (x5 - 1))) == (decide (x0 > 0))) = true then (some 1) else (some (-1))) else (none)) else (none))
def ferruleref12_Truth.f (k : Nat) (a0 : Int) (l1 : List Bool) : Option (Int) := (ferruleref12_Var.f k a0).bind fun t101 => (if t101 = 0 then (ferruleref12_Truth.j0 k a0 l1 t101 true) else (ferruleref12_Truth.j0 k a0 l1 t101 (decide (t101 > (l1.length : Int)))))
theorem ferruleref12_Truth.mono_l : ∀ k, (∀ y0 y1 y2 y3, LeO (ferruleref12_Truth.j0 k y0 y1 y2 y3) (ferruleref12_Truth.j0 (k + 1) y0 y1 y2 y3))
 | 0 => fun _ _ _ _ r h => by simp [ferruleref12_Truth.j0] at h
 | k + 1 => by
  have ih0 := ferruleref12_Truth.mono_l k
  ·intro y0 y1 y2 y3
   unfold ferruleref12_Truth.j0
   repeat' first
   | (with_reducible exact ih0 _ _ _ _)
   | (with_reducible exact ferruleref12_Var.mono _ _)
   | (with_reducible exact LeO.refl _)
   | (with_reducible exact LeO.none _)
   | (with_reducible refine LeO.ite ?_ ?_)
   | (with_reducible refine LeO.bind ?_ (fun _ => ?_))
   | exact ih0 _ _ _ _
   | exact ferruleref12_Var.mono _ _
   | exact LeO.none _
   | refine LeO.ite ?_ ?_
   | refine LeO.bind ?_ (fun _ => ?_)
theorem ferruleref12_Truth.mono : ∀ a0 a1 k, LeO (ferruleref12_Truth.f k a0 a1) (ferruleref12_Truth.f (k + 1) a0 a1) := by
 intro a0 a1 k
 have ih0 := ferruleref12_Truth.mono_l k
 unfold ferruleref12_Truth.f
 repeat' first
   | (with_reducible exact ih0 _ _ _ _)
   | (with_reducible exact ferruleref12_Var.mono _ _)
   | (with_reducible exact LeO.refl _)
   | (with_reducible exact LeO.none _)
   | (with_reducible refine LeO.ite ?_ ?_)
   | (with_reducible refine LeO.bind ?_ (fun _ => ?_))
   | exact ih0 _ _ _ _
   | exact ferruleref12_Var.mono _ _
   | exact LeO.none _
   | refine LeO.ite ?_ ?_
   | refine LeO.bind ?_ (fun _ => ?_)
set_option maxHeartbeats 8000000 in
set_option maxRecDepth 100000 in
theorem ferruleref12_Truth.calls (k : Nat) (a0 : Int) (A1 : Option Addr) (c1 : Nat) (l1 : List Bool) (r : Int) (w : World) (hr1 : Kd.C Kd.bool w A1 l1.length l1) (hc1 : l1.length ≤ c1) (h : ferruleref12_Truth.f k a0 l1 = some r) :
  Calls Try.prog 79 #[.int .i64 a0, .slice A1 l1.length c1] w fun e w' => e = .returned (.int .i64 r) ∧ Drawn0 w w' := by
 have HR1 := Aside0.mk hr1
 have HC1 := Aside0.mk hc1
 clear hr1 hc1
 have H : ((ferruleref12_Var.f k a0).bind fun t101 => (if t101 = 0 then (ferruleref12_Truth.j0 k a0 l1 t101 true) else (ferruleref12_Truth.j0 k a0 l1 t101 (decide (t101 > (l1.length : Int)))))) = some r := h
 clear h
 replace H := Option.bind_eq_some_iff.mp H
 obtain ⟨t101, A30, H⟩ := H
 replace H : (if t101 = 0 then (ferruleref12_Truth.j0 k a0 l1 t101 true) else (ferruleref12_Truth.j0 k a0 l1 t101 (decide (t101 > (l1.length : Int))))) = some r := H
 have A3 := Aside0.mk A30
 clear A30
 have HC4 := Aside0.mk H
 clear H
 go_enter Try.func79, Try.ntmps79
 go_upto_region 2 with (first | ((with_reducible refine gate_callee (f := 72) rfl ?_); refine goesL_ (some 7) rfl rfl Try.func72 (by kernel_rfl) rfl #[.int .i64 a0] rfl bM ?_; (with_reducible refine (ferruleref12_Var.calls k a0 t101 _ A3.out).mono ?_); rintro e w' ⟨rfl, ⟨nd, rfl⟩⟩; refine ⟨_, rfl, ?_⟩))
 (try simp only [Act.put, List.setIfInBounds_toArray, List.set_cons_zero, List.set_cons_succ])
 go_cut [15] (fun v15 wc => ∃ (kq : Nat) (x15_3 : Bool), v15 = .bool x15_3 ∧ Aside0 (ferruleref12_Truth.j0 kq a0 l1 t101 x15_3 = some r) ∧ Aside0 (kq ≤ k) ∧ Drawn0 w wc)
 case first =>
  have H := HC4.out
  clear HC4
  by_cases c5 : t101 = 0
  ·rw [if_pos c5] at H
   have c5b0 : (t101 == 0) = true := beq_iff_eq.mpr c5
   have c5b1 : (t101 != 0) = false := bne_eq_false_iff_eq.mpr c5
   clear c5
   (first | rw [c5b0] | (simp only [i64_w, i32_w]; rw [c5b0]) | skip)
   have H' := Aside0.mk H
   clear H
   go_wp2
   go_meet
   case rel => exact ⟨_, (true), bS, H', ⟨by first | omega | exact Nat.le_refl _⟩, by repeat (first | exact Drawn0.refl _ | apply Drawn0.step)⟩
  ·rw [if_neg c5] at H
   have c5b0 : (t101 == 0) = false := beq_eq_false_iff_ne.mpr c5
   have c5b1 : (t101 != 0) = true := bne_iff_ne.mpr c5
   (first | rw [c5b0] | (simp only [i64_w, i32_w]; rw [c5b0]) | skip)
   have H' := Aside0.mk H
   clear H
   go_wp2
   go_meet
   case rel => exact ⟨_, (decide (t101 > (l1.length : Int))), bS, H', ⟨by first | omega | exact Nat.le_refl _⟩, by repeat (first | exact Drawn0.refl _ | apply Drawn0.step)⟩
 case rest =>
  clear HC4
  try clear c1
  try clear p2
  try clear c5
  try clear c5b0
  try clear c5b1
  obtain ⟨kq, x15_3, rfl, HA, HJ3, ⟨mc3, rfl⟩⟩ := hcut
  cases kq with
  | zero => exact absurd HA.out (by simp [ferruleref12_Truth.j0])
  | succ kj3 =>
   have H := HA.out
   clear HA
   simp only [ferruleref12_Truth.j0] at H
   by_cases c6 : x15_3 = true
   ·subst c6
    have H1 : (some 0) = some r := by rw [if_pos rfl] at H; exact H
    clear H
    have H := H1
    clear H1
    obtain rfl := Option.some.inj H
    go_wp2
    go_ret
    exact ⟨by first | rfl | (simp; done) | (simp [*]; done) | (simp [bne]; done) | (unfold wrap64; simp_all; done) | (unfold wrap64; simp_all; omega), by repeat (first | exact Drawn0.refl _ | apply Drawn0.step)⟩
   ·replace c6 := Bool.eq_false_iff.mpr c6
    subst c6
    have H1 : (if 0 ≤ (wrap64 (t101 - 1)) then (if (wrap64 (t101 - 1)) < (l1.length : Int) then (if ((rdOf false l1 (wrap64 (t101 - 1))) == (decide (a0 > 0))) = true then (some 1) else (some (-1))) else (none)) else (none)) = some r := by rw [if_neg (show ¬ (false = true) by decide)] at H; exact H
    clear H
    have H := H1
    clear H1
    obtain ⟨ji7, hji7⟩ : ∃ j_ : Int, (wrap64 (t101 - 1)) = j_ := ⟨_, rfl⟩
    replace H : (if 0 ≤ (ji7) then (if (ji7) < (l1.length : Int) then (if ((rdOf false l1 (ji7)) == (decide (a0 > 0))) = true then (some 1) else (some (-1))) else (none)) else (none)) = some r := by first | (rw [hji7] at H; exact H) | (simp only [hji7] at H ⊢; exact H)
    have hji7w : (IntKind.i64.wrap (t101 - 1)) = ji7 := (i64_w _).trans hji7
    by_cases c8 : 0 ≤ (ji7)
    ·rw [if_pos c8] at H
     have c8b0 : decide (0 ≤ (ji7)) = true := decide_eq_true c8
     clear c8
     by_cases c9 : (ji7) < (l1.length : Int)
     ·rw [if_pos c9] at H
      have c9b0 : decide ((ji7) < (l1.length : Int)) = true := decide_eq_true c9
      clear c9
      by_cases c10 : ((rdOf false l1 (ji7)) == (decide (a0 > 0))) = true
      ·rw [if_pos c10] at H
       have c10b0 : ((rdOf false l1 (ji7)) == (decide (a0 > 0))) = true := c10
       (try (have c10b1 : decide ((rdOf false l1 (ji7)) = (decide (a0 > 0))) = true := by simpa using c10))
       (try (have c10b2 : ((rdOf false l1 (ji7)) == (decide (a0 > 0))) = true := by simpa using c10))
       clear c10
       obtain rfl := Option.some.inj H
       have p102 : 0 ≤ ((ji7) : Int) := oD
       have q102 : (ji7) < (l1.length : Int) := oD
       obtain ⟨ad102, e102, hx102_0⟩ := Kd.at_bool HR1.out (ji7) p102 q102
       cases e102
       replace p102 := eq_true p102
       replace q102 := eq_true q102
       go_wp2
       go_ret
       exact ⟨by first | rfl | (simp; done) | (simp only [← hji7] <;> (first | rfl | simp)) | (simp [*]; done), by repeat (first | exact Drawn0.refl _ | apply Drawn0.step)⟩
      ·rw [if_neg c10] at H
       have c10b0 : ((rdOf false l1 (ji7)) == (decide (a0 > 0))) = false := by simpa using c10
       (try (have c10b1 : decide ((rdOf false l1 (ji7)) = (decide (a0 > 0))) = false := by simpa using c10))
       (try (have c10b2 : ((rdOf false l1 (ji7)) == (decide (a0 > 0))) = false := by simpa using c10))
       (try (have c10b3 : ¬ ((rdOf false l1 (ji7)) = (decide (a0 > 0))) := by simpa using c10))
       clear c10
       obtain rfl := Option.some.inj H
       have p102 : 0 ≤ ((ji7) : Int) := oD
       have q102 : (ji7) < (l1.length : Int) := oD
       obtain ⟨ad102, e102, hx102_0⟩ := Kd.at_bool HR1.out (ji7) p102 q102
       cases e102
       replace p102 := eq_true p102
       replace q102 := eq_true q102
       go_wp2
       go_ret
       exact ⟨by first | rfl | (simp; done) | (simp only [← hji7] <;> (first | rfl | simp)) | (simp [*]; done), by repeat (first | exact Drawn0.refl _ | apply Drawn0.step)⟩
     ·rw [if_neg c9] at H
      exact absurd H (by simp)
    ·rw [if_neg c8] at H
     exact absurd H (by simp)

end Go.Proofs.Ytohgjbkiemnfnaa.R
