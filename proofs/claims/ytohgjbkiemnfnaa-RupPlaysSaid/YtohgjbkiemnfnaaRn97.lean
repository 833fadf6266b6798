-- Written by a program of this session (wip/xp), out of the translation. Not trusted: Lean checks it.
import Derived.Test.YtohgjbkiemnfnaaR0
import Derived.Test.YtohgjbkiemnfnaaRn111
-- shrunk
namespace Go.Proofs.Ytohgjbkiemnfnaa.R
open Go.RowKit Go.Proofs.YtohgjbkiemnfnaaW.PrintWords Go.Proofs.YtohgjbkiemnfnaaW.PrintLast Go.Proofs.YtohgjbkiemnfnaaW.PrintMore
attribute [local go_sem] Lab.str_gtr Lab.str_leq Lab.str_geq max2_int min2_int max_two min_two max_three min_three max_four min_four   -- for this text's walks alone
set_option linter.unusedVariables false
set_option linter.unusedSimpArgs false

/-! ### ferruleref17_State: function 97 -/
def ferruleref17_State.l0 : Nat → List Int → List Int → Int → Int → Int → Option (Int × Int)
 | 0, _, _, _, _, _ => none
 | k + 1, x0, x1, x6, x7, x8 => if x8 < (x0.length : Int) then (if 0 ≤ x8 then ((ferruleref17_truth.f k x1 (rd x0 x8)).bind fun t102 => (if t102 = 1 then (some (1, 0)) else (if t102 = 0 then (ferruleref17_State.l0 k x0 x1 (wrap64 (x6 + 1)) (rd x0 x8) (wrap64 (x8 + 1))) else (ferruleref17_State.l0 k x0 x1 x6 x7 (wrap64 (x8 + 1)))))) else (none)) else (if x6 = 0 then (some (0, 0)) else (if x6 = 1 then (some (2, x7)) else (some (3, 0))))
def ferruleref17_State.f (k : Nat) (l0 : List Int) (l1 : List Int) : Option (Int × Int) := ferruleref17_State.l0 k l0 l1 0 0 0
theorem ferruleref17_State.mono_l : ∀ k, (∀ y0 y1 y2 y3 y4, LeO (ferruleref17_State.l0 k y0 y1 y2 y3 y4) (ferruleref17_State.l0 (k + 1) y0 y1 y2 y3 y4))
 | 0 => fun _ _ _ _ _ r h => by simp [ferruleref17_State.l0] at h
 | k + 1 => by
  have ih0 := ferruleref17_State.mono_l k
  ·intro y0 y1 y2 y3 y4
   unfold ferruleref17_State.l0
   repeat' first
   | (with_reducible exact ih0 _ _ _ _ _)
   | (with_reducible exact ferruleref17_truth.mono _ _ _)
   | (with_reducible exact LeO.refl _)
   | (with_reducible exact LeO.none _)
   | (with_reducible refine LeO.ite ?_ ?_)
   | (with_reducible refine LeO.bind ?_ (fun _ => ?_))
   | exact ih0 _ _ _ _ _
   | exact ferruleref17_truth.mono _ _ _
   | exact LeO.none _
   | refine LeO.ite ?_ ?_
   | refine LeO.bind ?_ (fun _ => ?_)
theorem ferruleref17_State.mono : ∀ a0 a1 k, LeO (ferruleref17_State.f k a0 a1) (ferruleref17_State.f (k + 1) a0 a1) := by
 intro a0 a1 k
 have ih0 := ferruleref17_State.mono_l k
 unfold ferruleref17_State.f
 repeat' first
   | (with_reducible exact ih0 _ _ _ _ _)
   | (with_reducible exact ferruleref17_truth.mono _ _ _)
   | (with_reducible exact LeO.refl _)
   | (with_reducible exact LeO.none _)
   | (with_reducible refine LeO.ite ?_ ?_)
   | (with_reducible refine LeO.bind ?_ (fun _ => ?_))
   | exact ih0 _ _ _ _ _
   | exact ferruleref17_truth.mono _ _ _
   | exact LeO.none _
   | refine LeO.ite ?_ ?_
   | refine LeO.bind ?_ (fun _ => ?_)
set_option maxHeartbeats 8000000 in
set_option maxRecDepth 100000 in
theorem ferruleref17_State.calls (k : Nat) (A0 : Option Addr) (c0 : Nat) (l0 : List Int) (A1 : Option Addr) (c1 : Nat) (l1 : List Int) (r1 : Int) (r2 : Int) (w : World) (hr0 : Kd.C (Kd.int .i64) w A0 l0.length l0) (hc0 : l0.length ≤ c0) (hr1 : Kd.C (Kd.int .i64) w A1 l1.length l1) (hc1 : l1.length ≤ c1) (h : ferruleref17_State.f k l0 l1 = some (r1, r2)) :
  Calls Try.prog 97 #[.slice A0 l0.length c0, .slice A1 l1.length c1] w fun e w' => e = .returned (.tuple #[.int .i64 r1, .int .i64 r2]) ∧ Drawn0 w w' := by
 have HR0 := Aside0.mk hr0
 have HC0 := Aside0.mk hc0
 clear hr0 hc0
 have HR1 := Aside0.mk hr1
 have HC1 := Aside0.mk hc1
 clear hr1 hc1
 have H : (ferruleref17_State.l0 k l0 l1 0 0 0) = some (r1, r2) := h
 clear h
 have H' := Aside0.mk H
 clear H
 go_enter Try.func97, Try.ntmps97
 go_wp2
 go_loopg [6, 7, 8] k (fun kq v6 v7 v8 w' => ∃ (x6_1 : Int) (x7_1 : Int) (x8_1 : Int), v6 = .int .i64 x6_1 ∧ v7 = .int .i64 x7_1 ∧ v8 = .int .i64 x8_1 ∧ Aside0 (ferruleref17_State.l0 kq l0 l1 x6_1 x7_1 x8_1 = some (r1, r2)) ∧ Aside0 (kq ≤ k) ∧ Drawn0 w w')
 case atStart => exact ⟨(0), (0), (0), bS, bS, bS, H', ⟨Nat.le_refl _⟩, by repeat (first | exact Drawn0.refl _ | apply Drawn0.step)⟩
 case round =>
  clear H'
  try clear c1
  try clear p2
  obtain ⟨x6_1, x7_1, x8_1, rfl, rfl, rfl, HA, HK1, ⟨m1, rfl⟩⟩ := hrel
  cases gk with
  | zero => exact absurd HA.out (by simp [ferruleref17_State.l0])
  | succ k1 =>
   have H := HA.out
   clear HA
   simp only [ferruleref17_State.l0] at H
   by_cases c3 : x8_1 < (l0.length : Int)
   ·rw [if_pos c3] at H
    have c3b0 : decide (x8_1 < (l0.length : Int)) = true := decide_eq_true c3
    clear c3
    by_cases c4 : 0 ≤ x8_1
    ·rw [if_pos c4] at H
     have c4b0 : decide (0 ≤ x8_1) = true := decide_eq_true c4
     clear c4
     replace H := Option.bind_eq_some_iff.mp H
     obtain ⟨t102, A50, H⟩ := H
     replace H : (if t102 = 1 then (some (1, 0)) else (if t102 = 0 then (ferruleref17_State.l0 k1 l0 l1 (wrap64 (x6_1 + 1)) (rd l0 x8_1) (wrap64 (x8_1 + 1))) else (ferruleref17_State.l0 k1 l0 l1 x6_1 x7_1 (wrap64 (x8_1 + 1))))) = some (r1, r2) := H
     have A5 := Aside0.mk A50
     clear A50
     by_cases c6 : t102 = 1
     ·rw [if_pos c6] at H
      have c6b0 : (t102 == 1) = true := beq_iff_eq.mpr c6
      have c6b1 : (t102 != 1) = false := bne_eq_false_iff_eq.mpr c6
      clear c6
      simp only [Option.some.injEq, Prod.mk.injEq] at H
      obtain ⟨rfl, rfl⟩ := H
      have p101 : 0 ≤ (x8_1 : Int) := oD
      have q101 : x8_1 < (l0.length : Int) := oD
      obtain ⟨ad101, e101, hx101_0⟩ := Kd.at_int HR0.out x8_1 p101 q101
      cases e101
      replace p101 := eq_true p101
      replace q101 := eq_true q101
      go_wp2_with (first | ((with_reducible refine gate_callee (f := 111) rfl ?_); refine goesL_ (some 21) rfl rfl Try.func111 (by kernel_rfl) rfl #[.slice A1 l1.length c1, .int .i64 (rd l0 x8_1)] rfl bM ?_; (with_reducible refine (ferruleref17_truth.calls k1 _ _ l1 (rd l0 x8_1) t102 _ ?side1 ?side2 A5.out).mono ?_); (case side1 => repeat (first | exact HR1.out | (with_reducible refine Kd.C_alloc ?_ _) | (with_reducible refine Kd.C_drewN ?_ _) | (with_reducible refine Kd.C_drew ?_))); (case side2 => exact HC1.out); rintro e w' ⟨rfl, ⟨nd, rfl⟩⟩; refine ⟨_, rfl, ?_⟩))
      go_ret2
      exact ⟨by first | rfl | (simp; done) | (simp [*]; done) | (simp [bne]; done) | (unfold wrap64; simp_all; done) | (unfold wrap64; simp_all; omega), by repeat (first | exact Drawn0.refl _ | apply Drawn0.step)⟩
     ·rw [if_neg c6] at H
      have c6b0 : (t102 == 1) = false := beq_eq_false_iff_ne.mpr c6
      have c6b1 : (t102 != 1) = true := bne_iff_ne.mpr c6
      by_cases c7 : t102 = 0
      ·rw [if_pos c7] at H
       have c7b0 : (t102 == 0) = true := beq_iff_eq.mpr c7
       have c7b1 : (t102 != 0) = false := bne_eq_false_iff_eq.mpr c7
       clear c7
       have H' := Aside0.mk H
       clear H
       have p101 : 0 ≤ (x8_1 : Int) := oD
       have q101 : x8_1 < (l0.length : Int) := oD
       obtain ⟨ad101, e101, hx101_0⟩ := Kd.at_int HR0.out x8_1 p101 q101
       cases e101
       replace p101 := eq_true p101
       replace q101 := eq_true q101
       go_wp2_with (first | ((with_reducible refine gate_callee (f := 111) rfl ?_); refine goesL_ (some 21) rfl rfl Try.func111 (by kernel_rfl) rfl #[.slice A1 l1.length c1, .int .i64 (rd l0 x8_1)] rfl bM ?_; (with_reducible refine (ferruleref17_truth.calls k1 _ _ l1 (rd l0 x8_1) t102 _ ?side1 ?side2 A5.out).mono ?_); (case side1 => repeat (first | exact HR1.out | (with_reducible refine Kd.C_alloc ?_ _) | (with_reducible refine Kd.C_drewN ?_ _) | (with_reducible refine Kd.C_drew ?_))); (case side2 => exact HC1.out); rintro e w' ⟨rfl, ⟨nd, rfl⟩⟩; refine ⟨_, rfl, ?_⟩; have p103 : 0 ≤ (x8_1 : Int) := oD; have q103 : x8_1 < (l0.length : Int) := oD; obtain ⟨ad103, e103, hx103_0⟩ := Kd.at_int HR0.out x8_1 p103 q103; obtain rfl : ad101 = ad103 := (by injection e103); replace p103 := eq_true p103; replace q103 := eq_true q103))
       go_roundg k1
       case measure => have := HK1.out; omega
       case rel => exact ⟨(wrap64 (x6_1 + 1)), (rd l0 x8_1), (wrap64 (x8_1 + 1)), bS, bS, bS, H', ⟨by have := HK1.out; omega⟩, by repeat (first | exact Drawn0.refl _ | apply Drawn0.step)⟩
      ·rw [if_neg c7] at H
       have c7b0 : (t102 == 0) = false := beq_eq_false_iff_ne.mpr c7
       have c7b1 : (t102 != 0) = true := bne_iff_ne.mpr c7
       have H' := Aside0.mk H
       clear H
       have p101 : 0 ≤ (x8_1 : Int) := oD
       have q101 : x8_1 < (l0.length : Int) := oD
       obtain ⟨ad101, e101, hx101_0⟩ := Kd.at_int HR0.out x8_1 p101 q101
       cases e101
       replace p101 := eq_true p101
       replace q101 := eq_true q101
       go_wp2_with (first | ((with_reducible refine gate_callee (f := 111) rfl ?_); refine goesL_ (some 21) rfl rfl Try.func111 (by kernel_rfl) rfl #[.slice A1 l1.length c1, .int .i64 (rd l0 x8_1)] rfl bM ?_; (with_reducible refine (ferruleref17_truth.calls k1 _ _ l1 (rd l0 x8_1) t102 _ ?side1 ?side2 A5.out).mono ?_); (case side1 => repeat (first | exact HR1.out | (with_reducible refine Kd.C_alloc ?_ _) | (with_reducible refine Kd.C_drewN ?_ _) | (with_reducible refine Kd.C_drew ?_))); (case side2 => exact HC1.out); rintro e w' ⟨rfl, ⟨nd, rfl⟩⟩; refine ⟨_, rfl, ?_⟩))
       go_roundg k1
       case measure => have := HK1.out; omega
       case rel => exact ⟨(x6_1), (x7_1), (wrap64 (x8_1 + 1)), bS, bS, bS, H', ⟨by have := HK1.out; omega⟩, by repeat (first | exact Drawn0.refl _ | apply Drawn0.step)⟩
    ·rw [if_neg c4] at H
     exact absurd H (by simp)
   ·rw [if_neg c3] at H
    have c3b0 : decide (x8_1 < (l0.length : Int)) = false := decide_eq_false c3
    clear c3
    by_cases c8 : x6_1 = 0
    ·rw [if_pos c8] at H
     have c8b0 : (x6_1 == 0) = true := beq_iff_eq.mpr c8
     have c8b1 : (x6_1 != 0) = false := bne_eq_false_iff_eq.mpr c8
     clear c8
     simp only [Option.some.injEq, Prod.mk.injEq] at H
     obtain ⟨rfl, rfl⟩ := H
     go_wp2
     go_ret2
     exact ⟨by first | rfl | (simp; done) | (simp [*]; done) | (simp [bne]; done) | (unfold wrap64; simp_all; done) | (unfold wrap64; simp_all; omega), by repeat (first | exact Drawn0.refl _ | apply Drawn0.step)⟩
    ·rw [if_neg c8] at H
     have c8b0 : (x6_1 == 0) = false := beq_eq_false_iff_ne.mpr c8
     have c8b1 : (x6_1 != 0) = true := bne_iff_ne.mpr c8
     by_cases c9 : x6_1 = 1
     ·rw [if_pos c9] at H
      have c9b0 : (x6_1 == 1) = true := beq_iff_eq.mpr c9
      have c9b1 : (x6_1 != 1) = false := bne_eq_false_iff_eq.mpr c9
      clear c9
      simp only [Option.some.injEq, Prod.mk.injEq] at H
      obtain ⟨rfl, rfl⟩ := H
      go_wp2
      go_ret2
      exact ⟨by first | rfl | (simp; done) | (simp [*]; done) | (simp [bne]; done) | (unfold wrap64; simp_all; done) | (unfold wrap64; simp_all; omega), by repeat (first | exact Drawn0.refl _ | apply Drawn0.step)⟩
     ·rw [if_neg c9] at H
      have c9b0 : (x6_1 == 1) = false := beq_eq_false_iff_ne.mpr c9
      have c9b1 : (x6_1 != 1) = true := bne_iff_ne.mpr c9
      simp only [Option.some.injEq, Prod.mk.injEq] at H
      obtain ⟨rfl, rfl⟩ := H
      go_wp2
      go_ret2
      exact ⟨by first | rfl | (simp; done) | (simp [*]; done) | (simp [bne]; done) | (unfold wrap64; simp_all; done) | (unfold wrap64; simp_all; omega), by repeat (first | exact Drawn0.refl _ | apply Drawn0.step)⟩

end Go.Proofs.Ytohgjbkiemnfnaa.R
