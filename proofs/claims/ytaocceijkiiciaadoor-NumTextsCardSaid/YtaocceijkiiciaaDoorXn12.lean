-- Written by a program of this session (wip/xp), out of the translation. Not trusted: Lean checks it.
import Derived.Test.YtaocceijkiiciaaDoorX0
import Derived.Test.YtaocceijkiiciaaDoorXn10
import Derived.Test.YtaocceijkiiciaaDoorXn23
-- shrunk
namespace Go.Proofs.YtaocceijkiiciaaDoor.X
open Go.RowKit Go.Proofs.YtaocceijkiiciaaDoorW.PrintWords Go.Proofs.YtaocceijkiiciaaDoorW.PrintLast Go.Proofs.YtaocceijkiiciaaDoorW.PrintMore
attribute [local go_sem] Lab.str_gtr Lab.str_leq Lab.str_geq max2_int min2_int max_two min_two max_three min_three max_four min_four   -- for this text's walks alone
set_option linter.unusedVariables false
set_option linter.unusedSimpArgs false

/-! ### num_Compare: function 12 -/
def num_Compare.j0 : Nat → ByteArray → ByteArray → Bool → Option (Int)
 | 0, _, _, _ => none
 | k + 1, x0, x1, x5 => if x5 = true then (some 0) else (if (x0.size : Int) < (x1.size : Int) then (some (-1)) else (if (x0.size : Int) > (x1.size : Int) then (some 1) else ((strings_Compare.f x0 x1).bind fun t103 => (some t103))))
def num_Compare.f (k : Nat) (a0 : ByteArray) (a1 : ByteArray) : Option (Int) := (num_Is.f k a0).bind fun t101 => (if t101 = true then ((num_Is.f k a1).bind fun t102 => (num_Compare.j0 k a0 a1 (!t102))) else (num_Compare.j0 k a0 a1 true))
theorem num_Compare.mono_l : ∀ k, (∀ y0 y1 y2, LeO (num_Compare.j0 k y0 y1 y2) (num_Compare.j0 (k + 1) y0 y1 y2))
 | 0 => fun _ _ _ r h => by simp [num_Compare.j0] at h
 | k + 1 => by
  have ih0 := num_Compare.mono_l k
  ·intro y0 y1 y2
   unfold num_Compare.j0
   repeat' first
   | (with_reducible exact ih0 _ _ _)
   | (with_reducible exact num_Is.mono _ _)
   | (with_reducible exact LeO.refl _)
   | (with_reducible exact LeO.none _)
   | (with_reducible refine LeO.ite ?_ ?_)
   | (with_reducible refine LeO.bind ?_ (fun _ => ?_))
   | exact ih0 _ _ _
   | exact num_Is.mono _ _
   | exact LeO.none _
   | refine LeO.ite ?_ ?_
   | refine LeO.bind ?_ (fun _ => ?_)
theorem num_Compare.mono : ∀ a0 a1 k, LeO (num_Compare.f k a0 a1) (num_Compare.f (k + 1) a0 a1) := by
 intro a0 a1 k
 have ih0 := num_Compare.mono_l k
 unfold num_Compare.f
 repeat' first
   | (with_reducible exact ih0 _ _ _)
   | (with_reducible exact num_Is.mono _ _)
   | (with_reducible exact LeO.refl _)
   | (with_reducible exact LeO.none _)
   | (with_reducible refine LeO.ite ?_ ?_)
   | (with_reducible refine LeO.bind ?_ (fun _ => ?_))
   | exact ih0 _ _ _
   | exact num_Is.mono _ _
   | exact LeO.none _
   | refine LeO.ite ?_ ?_
   | refine LeO.bind ?_ (fun _ => ?_)
set_option maxHeartbeats 8000000 in
set_option maxRecDepth 100000 in
theorem num_Compare.calls (k : Nat) (a0 : ByteArray) (a1 : ByteArray) (r : Int) (w : World) (h : num_Compare.f k a0 a1 = some r) :
  Calls Tryd.prog 12 #[.string a0, .string a1] w fun e w' => e = .returned (.int .i64 r) ∧ Drawn0 w w' := by
 have H : ((num_Is.f k a0).bind fun t101 => (if t101 = true then ((num_Is.f k a1).bind fun t102 => (num_Compare.j0 k a0 a1 (!t102))) else (num_Compare.j0 k a0 a1 true))) = some r := h
 clear h
 have HC3 := Aside0.mk H
 clear H
 go_enter Tryd.func12, Tryd.ntmps12
 go_upto_region 1 with (fail)
 go_cut [5] (fun v5 wc => ∃ (kq : Nat) (x5_2 : Bool), v5 = .bool x5_2 ∧ Aside0 (num_Compare.j0 kq a0 a1 x5_2 = some r) ∧ Aside0 (kq ≤ k) ∧ Drawn0 w wc)
 case first =>
  have H := HC3.out
  clear HC3
  replace H := Option.bind_eq_some_iff.mp H
  obtain ⟨t101, A40, H⟩ := H
  replace H : (if t101 = true then ((num_Is.f k a1).bind fun t102 => (num_Compare.j0 k a0 a1 (!t102))) else (num_Compare.j0 k a0 a1 true)) = some r := H
  have A4 := Aside0.mk A40
  clear A40
  by_cases c5 : t101 = true
  ·subst c5
   have H1 : ((num_Is.f k a1).bind fun t102 => (num_Compare.j0 k a0 a1 (!t102))) = some r := by rw [if_pos rfl] at H; exact H
   clear H
   have H := H1
   clear H1
   replace H := Option.bind_eq_some_iff.mp H
   obtain ⟨t102, A60, H⟩ := H
   replace H : (num_Compare.j0 k a0 a1 (!t102)) = some r := H
   have A6 := Aside0.mk A60
   clear A60
   have H' := Aside0.mk H
   clear H
   go_wp2_with (first | ((with_reducible refine gate_callee (f := 10) rfl ?_); refine goesL_ (some 7) rfl rfl Tryd.func10 (by kernel_rfl) rfl #[.string a0] rfl bM ?_; (with_reducible refine (num_Is.calls k a0 true _ A4.out).mono ?_); rintro e w' ⟨rfl, ⟨nd, rfl⟩⟩; refine ⟨_, rfl, ?_⟩) | (go_at_call 10; (with_reducible refine (num_Is.calls k a1 t102 _ A6.out).mono ?_); rintro e w' ⟨rfl, ⟨nd, rfl⟩⟩))
   go_meet
   case rel => exact ⟨_, (!t102), bS, H', ⟨by first | omega | exact Nat.le_refl _⟩, by repeat (first | exact Drawn0.refl _ | apply Drawn0.step)⟩
  ·replace c5 := Bool.eq_false_iff.mpr c5
   subst c5
   have H1 : (num_Compare.j0 k a0 a1 true) = some r := by rw [if_neg (show ¬ (false = true) by decide)] at H; exact H
   clear H
   have H := H1
   clear H1
   have H' := Aside0.mk H
   clear H
   go_wp2_with (first | ((with_reducible refine gate_callee (f := 10) rfl ?_); refine goesL_ (some 7) rfl rfl Tryd.func10 (by kernel_rfl) rfl #[.string a0] rfl bM ?_; (with_reducible refine (num_Is.calls k a0 false _ A4.out).mono ?_); rintro e w' ⟨rfl, ⟨nd, rfl⟩⟩; refine ⟨_, rfl, ?_⟩))
   go_meet
   case rel => exact ⟨_, (true), bS, H', ⟨by first | omega | exact Nat.le_refl _⟩, by repeat (first | exact Drawn0.refl _ | apply Drawn0.step)⟩
 case rest =>
  clear HC3
  try clear c1
  try clear p2
  try clear c5
  try clear p6
  obtain ⟨kq, x5_2, rfl, HA, HJ2, ⟨mc2, rfl⟩⟩ := hcut
  cases kq with
  | zero => exact absurd HA.out (by simp [num_Compare.j0])
  | succ kj2 =>
   have H := HA.out
   clear HA
   simp only [num_Compare.j0] at H
   by_cases c7 : x5_2 = true
   ·subst c7
    have H1 : (some 0) = some r := by rw [if_pos rfl] at H; exact H
    clear H
    have H := H1
    clear H1
    obtain rfl := Option.some.inj H
    go_wp2
    go_ret
    exact ⟨by first | rfl | (simp; done) | (simp [*]; done) | (simp [bne]; done) | (unfold wrap64; simp_all; done) | (unfold wrap64; simp_all; omega), by repeat (first | exact Drawn0.refl _ | apply Drawn0.step)⟩
   ·replace c7 := Bool.eq_false_iff.mpr c7
    subst c7
    have H1 : (if (a0.size : Int) < (a1.size : Int) then (some (-1)) else (if (a0.size : Int) > (a1.size : Int) then (some 1) else ((strings_Compare.f a0 a1).bind fun t103 => (some t103)))) = some r := by rw [if_neg (show ¬ (false = true) by decide)] at H; exact H
    clear H
    have H := H1
    clear H1
    by_cases c8 : (a0.size : Int) < (a1.size : Int)
    ·rw [if_pos c8] at H
     have c8b0 : decide ((a0.size : Int) < (a1.size : Int)) = true := decide_eq_true c8
     have c8b1 : decide (a0.size < a1.size) = true := decide_eq_true (Int.ofNat_lt.mp c8)
     clear c8
     obtain rfl := Option.some.inj H
     go_wp2
     go_ret
     exact ⟨by first | rfl | (simp; done) | (simp [*]; done) | (simp [bne]; done) | (unfold wrap64; simp_all; done) | (unfold wrap64; simp_all; omega), by repeat (first | exact Drawn0.refl _ | apply Drawn0.step)⟩
    ·rw [if_neg c8] at H
     have c8b0 : decide ((a0.size : Int) < (a1.size : Int)) = false := decide_eq_false c8
     have c8b1 : decide (a0.size < a1.size) = false := decide_eq_false (fun h => c8 (Int.ofNat_lt.mpr h))
     clear c8
     by_cases c9 : (a0.size : Int) > (a1.size : Int)
     ·rw [if_pos c9] at H
      have c9b0 : decide ((a1.size : Int) < (a0.size : Int)) = true := decide_eq_true c9
      have c9b1 : decide (a1.size < a0.size) = true := decide_eq_true (Int.ofNat_lt.mp c9)
      clear c9
      obtain rfl := Option.some.inj H
      go_wp2
      go_ret
      exact ⟨by first | rfl | (simp; done) | (simp [*]; done) | (simp [bne]; done) | (unfold wrap64; simp_all; done) | (unfold wrap64; simp_all; omega), by repeat (first | exact Drawn0.refl _ | apply Drawn0.step)⟩
     ·rw [if_neg c9] at H
      have c9b0 : decide ((a1.size : Int) < (a0.size : Int)) = false := decide_eq_false c9
      have c9b1 : decide (a1.size < a0.size) = false := decide_eq_false (fun h => c9 (Int.ofNat_lt.mpr h))
      clear c9
      replace H := Option.bind_eq_some_iff.mp H
      obtain ⟨t103, A100, H⟩ := H
      replace H : (some t103) = some r := H
      have A10 := Aside0.mk A100
      clear A100
      obtain rfl := Option.some.inj H
      go_wp2_with (first | ((with_reducible refine gate_callee (f := 23) rfl ?_); refine goesL_ (some 28) rfl rfl Tryd.func23 (by kernel_rfl) rfl #[.string a0, .string a1] rfl bM ?_; (with_reducible refine (strings_Compare.calls a0 a1 t103 _ A10.out).mono ?_); rintro e w' ⟨rfl, ⟨nd, rfl⟩⟩; refine ⟨_, rfl, ?_⟩))
      go_ret
      exact ⟨by first | rfl | (simp; done) | (simp [*]; done) | (simp [bne]; done) | (unfold wrap64; simp_all; done) | (unfold wrap64; simp_all; omega), by repeat (first | exact Drawn0.refl _ | apply Drawn0.step)⟩

end Go.Proofs.YtaocceijkiiciaaDoor.X
