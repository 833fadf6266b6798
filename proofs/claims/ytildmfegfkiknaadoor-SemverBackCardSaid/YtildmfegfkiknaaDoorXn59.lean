-- Written by a program of this session (wip/xp), out of the translation. Not trusted: Lean checks it.
import Derived.Test.YtildmfegfkiknaaDoorX0
import Derived.Test.YtildmfegfkiknaaDoorXm
-- shrunk
namespace Go.Proofs.YtildmfegfkiknaaDoor.X
open Go.RowKit Go.Proofs.YtildmfegfkiknaaDoorW.PrintWords Go.Proofs.YtildmfegfkiknaaDoorW.PrintLast Go.Proofs.YtildmfegfkiknaaDoorW.PrintMore
attribute [local go_sem] Lab.str_gtr Lab.str_leq Lab.str_geq max2_int min2_int max_two min_two max_three min_three max_four min_four   -- for this text's walks alone
set_option linter.unusedVariables false
set_option linter.unusedSimpArgs false

/-! ### num_Parse: function 59 -/
mutual
def num_Parse.j0 : Nat → List Int → Int → Int → Int → Bool → Option (Int × Int × Int)
 | 0, _, _, _, _, _ => none
 | k + 1, x0, x1, x4, x5, x16 => if x16 = true then (some (0, 0, 1)) else (num_Parse.l0 k x0 x1 x4 x5 false)
def num_Parse.l0 : Nat → List Int → Int → Int → Int → Bool → Option (Int × Int × Int)
 | 0, _, _, _, _, _ => none
 | k + 1, x0, x1, x4, x5, x7 => if (wrap64 (x1 + x5)) < (x0.length : Int) then (if 0 ≤ (wrap64 (x1 + x5)) then ((num_digit.f (rd x0 (wrap64 (x1 + x5)))).bind fun t102 => (num_Parse.j2 k x0 x1 x4 x5 x7 t102)) else (none)) else (num_Parse.j2 k x0 x1 x4 x5 x7 false)
def num_Parse.j2 : Nat → List Int → Int → Int → Int → Bool → Bool → Option (Int × Int × Int)
 | 0, _, _, _, _, _, _ => none
 | k + 1, x0, x1, x4, x5, x7, x31 => if x31 = true then (if 0 ≤ (wrap64 (x1 + x5)) then (if (wrap64 (x1 + x5)) < (x0.length : Int) then (if x7 = true then (num_Parse.l0 k x0 x1 (IntKind.u64.wrap ((IntKind.u64.wrap (10 * x4)) + (((rd x0 (wrap64 (x1 + x5))) - 48) % 256))) (wrap64 (x5 + 1)) true) else (num_Parse.l0 k x0 x1 (IntKind.u64.wrap ((IntKind.u64.wrap (10 * x4)) + (((rd x0 (wrap64 (x1 + x5))) - 48) % 256))) (wrap64 (x5 + 1)) (decide (x4 > ((9223372036854775807 - (((rd x0 (wrap64 (x1 + x5))) - 48) % 256)) / 10))))) else (none)) else (none)) else (if x5 = 0 then (some (0, 0, 2)) else (if x5 > 1 then (if 0 ≤ x1 then (if x1 < (x0.length : Int) then (num_Parse.j3 k x4 x5 x7 ((rd x0 x1) == 48)) else (none)) else (none)) else (num_Parse.j3 k x4 x5 x7 false)))
def num_Parse.j3 : Nat → Int → Int → Bool → Bool → Option (Int × Int × Int)
 | 0, _, _, _, _ => none
 | k + 1, x4, x5, x7, x57 => if x57 = true then (some (0, 0, 3)) else (if x7 = true then (some (0, 0, 4)) else (some (x4, x5, 0)))
end
def num_Parse.f (k : Nat) (l0 : List Int) (a1 : Int) : Option (Int × Int × Int) := if a1 < 0 then (num_Parse.j0 k l0 a1 0 0 true) else (num_Parse.j0 k l0 a1 0 0 (decide (a1 > (l0.length : Int))))
theorem num_Parse.mono_l : ∀ k, (∀ y0 y1 y2 y3 y4, LeO (num_Parse.j0 k y0 y1 y2 y3 y4) (num_Parse.j0 (k + 1) y0 y1 y2 y3 y4)) ∧ (∀ y0 y1 y2 y3 y4, LeO (num_Parse.l0 k y0 y1 y2 y3 y4) (num_Parse.l0 (k + 1) y0 y1 y2 y3 y4)) ∧ (∀ y0 y1 y2 y3 y4 y5, LeO (num_Parse.j2 k y0 y1 y2 y3 y4 y5) (num_Parse.j2 (k + 1) y0 y1 y2 y3 y4 y5)) ∧ (∀ y0 y1 y2 y3, LeO (num_Parse.j3 k y0 y1 y2 y3) (num_Parse.j3 (k + 1) y0 y1 y2 y3))
 | 0 => ⟨fun _ _ _ _ _ r h => by simp [num_Parse.j0] at h, fun _ _ _ _ _ r h => by simp [num_Parse.l0] at h, fun _ _ _ _ _ _ r h => by simp [num_Parse.j2] at h, fun _ _ _ _ r h => by simp [num_Parse.j3] at h⟩
 | k + 1 => by
  obtain ⟨ih0, ih1, ih2, ih3⟩ := num_Parse.mono_l k
  refine ⟨?_, ?_, ?_, ?_⟩
  ·intro y0 y1 y2 y3 y4
   unfold num_Parse.j0
   repeat' first
   | (with_reducible exact ih0 _ _ _ _ _)
   | (with_reducible exact ih1 _ _ _ _ _)
   | (with_reducible exact ih2 _ _ _ _ _ _)
   | (with_reducible exact ih3 _ _ _ _)
   | (with_reducible exact LeO.refl _)
   | (with_reducible exact LeO.none _)
   | (with_reducible refine LeO.ite ?_ ?_)
   | (with_reducible refine LeO.bind ?_ (fun _ => ?_))
   | exact ih0 _ _ _ _ _
   | exact ih1 _ _ _ _ _
   | exact ih2 _ _ _ _ _ _
   | exact ih3 _ _ _ _
   | exact LeO.none _
   | refine LeO.ite ?_ ?_
   | refine LeO.bind ?_ (fun _ => ?_)
  ·intro y0 y1 y2 y3 y4
   unfold num_Parse.l0
   repeat' first
   | (with_reducible exact ih0 _ _ _ _ _)
   | (with_reducible exact ih1 _ _ _ _ _)
   | (with_reducible exact ih2 _ _ _ _ _ _)
   | (with_reducible exact ih3 _ _ _ _)
   | (with_reducible exact LeO.refl _)
   | (with_reducible exact LeO.none _)
   | (with_reducible refine LeO.ite ?_ ?_)
   | (with_reducible refine LeO.bind ?_ (fun _ => ?_))
   | exact ih0 _ _ _ _ _
   | exact ih1 _ _ _ _ _
   | exact ih2 _ _ _ _ _ _
   | exact ih3 _ _ _ _
   | exact LeO.none _
   | refine LeO.ite ?_ ?_
   | refine LeO.bind ?_ (fun _ => ?_)
  ·intro y0 y1 y2 y3 y4 y5
   unfold num_Parse.j2
   repeat' first
   | (with_reducible exact ih0 _ _ _ _ _)
   | (with_reducible exact ih1 _ _ _ _ _)
   | (with_reducible exact ih2 _ _ _ _ _ _)
   | (with_reducible exact ih3 _ _ _ _)
   | (with_reducible exact LeO.refl _)
   | (with_reducible exact LeO.none _)
   | (with_reducible refine LeO.ite ?_ ?_)
   | (with_reducible refine LeO.bind ?_ (fun _ => ?_))
   | exact ih0 _ _ _ _ _
   | exact ih1 _ _ _ _ _
   | exact ih2 _ _ _ _ _ _
   | exact ih3 _ _ _ _
   | exact LeO.none _
   | refine LeO.ite ?_ ?_
   | refine LeO.bind ?_ (fun _ => ?_)
  ·intro y0 y1 y2 y3
   unfold num_Parse.j3
   repeat' first
   | (with_reducible exact ih0 _ _ _ _ _)
   | (with_reducible exact ih1 _ _ _ _ _)
   | (with_reducible exact ih2 _ _ _ _ _ _)
   | (with_reducible exact ih3 _ _ _ _)
   | (with_reducible exact LeO.refl _)
   | (with_reducible exact LeO.none _)
   | (with_reducible refine LeO.ite ?_ ?_)
   | (with_reducible refine LeO.bind ?_ (fun _ => ?_))
   | exact ih0 _ _ _ _ _
   | exact ih1 _ _ _ _ _
   | exact ih2 _ _ _ _ _ _
   | exact ih3 _ _ _ _
   | exact LeO.none _
   | refine LeO.ite ?_ ?_
   | refine LeO.bind ?_ (fun _ => ?_)
theorem num_Parse.mono : ∀ a0 a1 k, LeO (num_Parse.f k a0 a1) (num_Parse.f (k + 1) a0 a1) := by
 intro a0 a1 k
 obtain ⟨ih0, ih1, ih2, ih3⟩ := num_Parse.mono_l k
 unfold num_Parse.f
 repeat' first
   | (with_reducible exact ih0 _ _ _ _ _)
   | (with_reducible exact ih1 _ _ _ _ _)
   | (with_reducible exact ih2 _ _ _ _ _ _)
   | (with_reducible exact ih3 _ _ _ _)
   | (with_reducible exact LeO.refl _)
   | (with_reducible exact LeO.none _)
   | (with_reducible refine LeO.ite ?_ ?_)
   | (with_reducible refine LeO.bind ?_ (fun _ => ?_))
   | exact ih0 _ _ _ _ _
   | exact ih1 _ _ _ _ _
   | exact ih2 _ _ _ _ _ _
   | exact ih3 _ _ _ _
   | exact LeO.none _
   | refine LeO.ite ?_ ?_
   | refine LeO.bind ?_ (fun _ => ?_)
set_option maxHeartbeats 8000000 in
set_option maxRecDepth 100000 in
theorem num_Parse.calls (k : Nat) (A0 : Option Addr) (c0 : Nat) (l0 : List Int) (a1 : Int) (r1 : Int) (r2 : Int) (r3 : Int) (w : World) (hr0 : Kd.C (Kd.int .u8) w A0 l0.length l0) (hc0 : l0.length ≤ c0) (h : num_Parse.f k l0 a1 = some (r1, r2, r3)) :
  Calls Tryd.prog 59 #[.slice A0 l0.length c0, .int .i64 a1] w fun e w' => e = .returned (.tuple #[.int .u64 r1, .int .i64 r2, .int .i64 r3]) ∧ Drawn0 w w' := by
 have HR0 := Aside0.mk hr0
 have HC0 := Aside0.mk hc0
 clear hr0 hc0
 have H : (if a1 < 0 then (num_Parse.j0 k l0 a1 0 0 true) else (num_Parse.j0 k l0 a1 0 0 (decide (a1 > (l0.length : Int))))) = some (r1, r2, r3) := h
 clear h
 have HC3 := Aside0.mk H
 clear H
 go_enter Tryd.func59, Tryd.ntmps59
 go_wp2
 refine Lab.wp_scope_lab (Lab.scopeOf Tryd.f59) ?sc k ?_
 case sc => kernel_rfl
 go_upto_region 1 with (fail)
 go_cut [16] (fun v16 wc => ∃ (kq : Nat) (x16_2 : Bool), v16 = .bool x16_2 ∧ Aside0 (num_Parse.j0 kq l0 a1 0 0 x16_2 = some (r1, r2, r3)) ∧ Aside0 (kq ≤ k) ∧ Drawn0 w wc)
 case first =>
  have H := HC3.out
  clear HC3
  by_cases c4 : a1 < 0
  ·rw [if_pos c4] at H
   have c4b0 : decide (a1 < 0) = true := decide_eq_true c4
   clear c4
   (first | rw [c4b0] | (simp only [i64_w, i32_w]; rw [c4b0]) | skip)
   have H' := Aside0.mk H
   clear H
   go_wp2
   go_meet
   case rel => exact ⟨_, (true), bS, H', ⟨by first | omega | exact Nat.le_refl _⟩, by repeat (first | exact Drawn0.refl _ | apply Drawn0.step)⟩
  ·rw [if_neg c4] at H
   have c4b0 : decide (a1 < 0) = false := decide_eq_false c4
   clear c4
   (first | rw [c4b0] | (simp only [i64_w, i32_w]; rw [c4b0]) | skip)
   have H' := Aside0.mk H
   clear H
   go_wp2
   go_meet
   case rel => exact ⟨_, (decide (a1 > (l0.length : Int))), bS, H', ⟨by first | omega | exact Nat.le_refl _⟩, by repeat (first | exact Drawn0.refl _ | apply Drawn0.step)⟩
 case rest =>
  clear HC3
  try clear p2
  try clear c4
  try clear c4b0
  obtain ⟨kq, x16_2, rfl, HA, HJ2, ⟨mc2, rfl⟩⟩ := hcut
  cases kq with
  | zero => exact absurd HA.out (by simp [num_Parse.j0])
  | succ kj2 =>
   have H := HA.out
   clear HA
   simp only [num_Parse.j0] at H
   by_cases c5 : x16_2 = true
   ·subst c5
    have H1 : (some (0, 0, 1)) = some (r1, r2, r3) := by rw [if_pos rfl] at H; exact H
    clear H
    have H := H1
    clear H1
    simp only [Option.some.injEq, Prod.mk.injEq] at H
    obtain ⟨rfl, rfl, rfl⟩ := H
    go_wp2
    (try simp only [Exit.then, Exit.inBlock, Lab.gotos])
    go_ret3
    exact ⟨by first | rfl | (simp; done) | (simp [*]; done) | (simp [bne]; done) | (unfold wrap64; simp_all; done) | (unfold wrap64; simp_all; omega), by repeat (first | exact Drawn0.refl _ | apply Drawn0.step)⟩
   ·replace c5 := Bool.eq_false_iff.mpr c5
    subst c5
    have H1 : (num_Parse.l0 kj2 l0 a1 0 0 false) = some (r1, r2, r3) := by rw [if_neg (show ¬ (false = true) by decide)] at H; exact H
    clear H
    have H := H1
    clear H1
    have H' := Aside0.mk H
    clear H
    go_wp2
    go_step3
    go_step
    (try go_step)
    refine Lab.wp_at_label (l := 0) (fun a0_ kq a_ w_ => ∃ u4 u5 u7 : Value, ((fun kq v4 v5 v7 w' => ∃ (x4_2 : Int) (x5_2 : Int) (x7_2 : Bool), v4 = .int .u64 x4_2 ∧ v5 = .int .i64 x5_2 ∧ v7 = .bool x7_2 ∧ Aside0 (num_Parse.l0 kq l0 a1 x4_2 x5_2 x7_2 = some (r1, r2, r3)) ∧ Aside0 (kq ≤ kj2) ∧ Drawn0 w w') kq u4 u5 u7 w_) ∧ a_ = (((((((((((((((((((((((((((((((((((((((((((((((((((((((((((((((((((a0_.put (some 4) u4).put (some 5) u5).put (some 6) (Lab.tmp a_ 6)).put (some 7) u7).put (some 8) (Lab.tmp a_ 8)).put (some 9) (Lab.tmp a_ 9)).put (some 10) (Lab.tmp a_ 10)).put (some 11) (Lab.tmp a_ 11)).put (some 12) (Lab.tmp a_ 12)).put (some 13) (Lab.tmp a_ 13)).put (some 14) (Lab.tmp a_ 14)).put (some 15) (Lab.tmp a_ 15)).put (some 16) (Lab.tmp a_ 16)).put (some 17) (Lab.tmp a_ 17)).put (some 18) (Lab.tmp a_ 18)).put (some 19) (Lab.tmp a_ 19)).put (some 20) (Lab.tmp a_ 20)).put (some 21) (Lab.tmp a_ 21)).put (some 22) (Lab.tmp a_ 22)).put (some 23) (Lab.tmp a_ 23)).put (some 24) (Lab.tmp a_ 24)).put (some 25) (Lab.tmp a_ 25)).put (some 26) (Lab.tmp a_ 26)).put (some 27) (Lab.tmp a_ 27)).put (some 28) (Lab.tmp a_ 28)).put (some 29) (Lab.tmp a_ 29)).put (some 30) (Lab.tmp a_ 30)).put (some 31) (Lab.tmp a_ 31)).put (some 32) (Lab.tmp a_ 32)).put (some 33) (Lab.tmp a_ 33)).put (some 34) (Lab.tmp a_ 34)).put (some 35) (Lab.tmp a_ 35)).put (some 36) (Lab.tmp a_ 36)).put (some 37) (Lab.tmp a_ 37)).put (some 38) (Lab.tmp a_ 38)).put (some 39) (Lab.tmp a_ 39)).put (some 40) (Lab.tmp a_ 40)).put (some 41) (Lab.tmp a_ 41)).put (some 42) (Lab.tmp a_ 42)).put (some 43) (Lab.tmp a_ 43)).put (some 44) (Lab.tmp a_ 44)).put (some 45) (Lab.tmp a_ 45)).put (some 46) (Lab.tmp a_ 46)).put (some 47) (Lab.tmp a_ 47)).put (some 48) (Lab.tmp a_ 48)).put (some 49) (Lab.tmp a_ 49)).put (some 50) (Lab.tmp a_ 50)).put (some 51) (Lab.tmp a_ 51)).put (some 52) (Lab.tmp a_ 52)).put (some 53) (Lab.tmp a_ 53)).put (some 54) (Lab.tmp a_ 54)).put (some 55) (Lab.tmp a_ 55)).put (some 56) (Lab.tmp a_ 56)).put (some 57) (Lab.tmp a_ 57)).put (some 58) (Lab.tmp a_ 58)).put (some 59) (Lab.tmp a_ 59)).put (some 60) (Lab.tmp a_ 60)).put (some 61) (Lab.tmp a_ 61)).put (some 62) (Lab.tmp a_ 62)).put (some 63) (Lab.tmp a_ 63)).put (some 64) (Lab.tmp a_ 64)).put (some 65) (Lab.tmp a_ 65)).put (some 66) (Lab.tmp a_ 66)).put (some 67) (Lab.tmp a_ 67)).put (some 68) (Lab.tmp a_ 68)).put (some 69) (Lab.tmp a_ 69)).put (some 70) (Lab.tmp a_ 70))) kj2 ?fl (by have := HJ2.out; first | omega | exact Nat.le_refl _) ?atStart ?round
    case fl => kernel_rfl
    case atStart =>
     (repeat apply Exists.intro)
     refine ⟨?rel, ?fr⟩
     case fr => (simp only [Act.put, List.setIfInBounds_toArray, List.set_cons_zero, List.set_cons_succ] <;> rfl)
     case rel => exact ⟨(0), (0), (false), bS, bS, bS, H', ⟨Nat.le_refl _⟩, by repeat (first | exact Drawn0.refl _ | apply Drawn0.step)⟩
    case round =>
     intro gk a_ wr hle_ hinv HIH_0
     clear hle_
     obtain ⟨u4, u5, u7, hrel, hfr_⟩ := hinv
     generalize hU_ : Lab.tmp a_ = U_ at hfr_
     clear hU_
     subst hfr_
     (try dsimp only at hrel)
     simp only [Act.put, List.setIfInBounds_toArray, List.set_cons_zero, List.set_cons_succ]
     clear H'
     try clear c2
     try clear p2
     try clear p3
     try clear c4
     try clear c4b0
     try clear c5
     try clear p2
     obtain ⟨x4_2, x5_2, x7_2, rfl, rfl, rfl, HA, HK2, ⟨m2, rfl⟩⟩ := hrel
     cases gk with
     | zero => exact absurd HA.out (by simp [num_Parse.l0])
     | succ k2 =>
      have H := HA.out
      clear HA
      simp only [num_Parse.l0] at H
      have HC6 := Aside0.mk H
      clear H
      go_upto_region 4 with (fail)
      go_cut [31] (fun v31 wc => ∃ (kq : Nat) (x31_5 : Bool), v31 = .bool x31_5 ∧ Aside0 (num_Parse.j2 kq l0 a1 x4_2 x5_2 x7_2 x31_5 = some (r1, r2, r3)) ∧ Aside0 (kq ≤ k2) ∧ Drawn0 w wc)
      case first =>
       have H := HC6.out
       clear HC6
       by_cases c7 : (wrap64 (a1 + x5_2)) < (l0.length : Int)
       ·rw [if_pos c7] at H
        have c7b0 : decide ((wrap64 (a1 + x5_2)) < (l0.length : Int)) = true := decide_eq_true c7
        clear c7
        (first | rw [c7b0] | (simp only [i64_w, i32_w]; rw [c7b0]) | skip)
        obtain ⟨ji8, hji8⟩ : ∃ j_ : Int, (wrap64 (a1 + x5_2)) = j_ := ⟨_, rfl⟩
        replace H : (if 0 ≤ (ji8) then ((num_digit.f (rd l0 (ji8))).bind fun t102 => (num_Parse.j2 k2 l0 a1 x4_2 x5_2 x7_2 t102)) else (none)) = some (r1, r2, r3) := by first | (rw [hji8] at H; exact H) | (simp only [hji8] at H ⊢; exact H)
        (try rw [hji8] at c7b0)
        have hji8w : (IntKind.i64.wrap (a1 + x5_2)) = ji8 := (i64_w _).trans hji8
        by_cases c9 : 0 ≤ (ji8)
        ·rw [if_pos c9] at H
         have c9b0 : decide (0 ≤ (ji8)) = true := decide_eq_true c9
         clear c9
         replace H := Option.bind_eq_some_iff.mp H
         obtain ⟨t102, A100, H⟩ := H
         replace H : (num_Parse.j2 k2 l0 a1 x4_2 x5_2 x7_2 t102) = some (r1, r2, r3) := H
         have A10 := Aside0.mk A100
         clear A100
         have H' := Aside0.mk H
         clear H
         have p101 : 0 ≤ ((ji8) : Int) := oD
         have q101 : (ji8) < (l0.length : Int) := oD
         obtain ⟨ad101, e101, hx101_0⟩ := Kd.at_int HR0.out (ji8) p101 q101
         cases e101
         replace p101 := eq_true p101
         replace q101 := eq_true q101
         go_wp2_with (first | (go_at_call 80; (with_reducible refine (num_digit.calls (rd l0 (ji8)) t102 _ A10.out).mono ?_); rintro e w' ⟨rfl, ⟨nd, rfl⟩⟩))
         go_meet
         case rel => exact ⟨_, (t102), bS, H', ⟨by have := HJ2.out; have := HK2.out; first | omega | exact Nat.le_refl _⟩, by repeat (first | exact Drawn0.refl _ | apply Drawn0.step)⟩
        ·rw [if_neg c9] at H
         exact absurd H (by simp)
       ·rw [if_neg c7] at H
        have c7b0 : decide ((wrap64 (a1 + x5_2)) < (l0.length : Int)) = false := decide_eq_false c7
        clear c7
        (first | rw [c7b0] | (simp only [i64_w, i32_w]; rw [c7b0]) | skip)
        have H' := Aside0.mk H
        clear H
        go_wp2
        go_meet
        case rel => exact ⟨_, (false), bS, H', ⟨by have := HJ2.out; have := HK2.out; first | omega | exact Nat.le_refl _⟩, by repeat (first | exact Drawn0.refl _ | apply Drawn0.step)⟩
      case rest =>
       clear HC6
       try clear p1
       try clear q1
       try clear hx1
       try clear c2
       try clear p2
       try clear p3
       try clear c4
       try clear c4b0
       try clear c5
       try clear p6
       try clear c7
       try clear c7b0
       try clear c9
       try clear c9b0
       try clear p10
       try clear q10
       try clear hx10
       try clear hx101_0
       try clear p101
       try clear p2
       try clear p3
       try clear q101
       obtain ⟨kq, x31_5, rfl, HA, HJ5, ⟨mc5, rfl⟩⟩ := hcut
       cases kq with
       | zero => exact absurd HA.out (by simp [num_Parse.j2])
       | succ kj5 =>
        have H := HA.out
        clear HA
        simp only [num_Parse.j2] at H
        by_cases c11 : x31_5 = true
        ·subst c11
         have H1 : (if 0 ≤ (wrap64 (a1 + x5_2)) then (if (wrap64 (a1 + x5_2)) < (l0.length : Int) then (if x7_2 = true then (num_Parse.l0 kj5 l0 a1 (IntKind.u64.wrap ((IntKind.u64.wrap (10 * x4_2)) + (((rd l0 (wrap64 (a1 + x5_2))) - 48) % 256))) (wrap64 (x5_2 + 1)) true) else (num_Parse.l0 kj5 l0 a1 (IntKind.u64.wrap ((IntKind.u64.wrap (10 * x4_2)) + (((rd l0 (wrap64 (a1 + x5_2))) - 48) % 256))) (wrap64 (x5_2 + 1)) (decide (x4_2 > ((9223372036854775807 - (((rd l0 (wrap64 (a1 + x5_2))) - 48) % 256)) / 10))))) else (none)) else (none)) = some (r1, r2, r3) := by rw [if_pos rfl] at H; exact H
         clear H
         have H := H1
         clear H1
         obtain ⟨ji12, hji12⟩ : ∃ j_ : Int, (wrap64 (a1 + x5_2)) = j_ := ⟨_, rfl⟩
         replace H : (if 0 ≤ (ji12) then (if (ji12) < (l0.length : Int) then (if x7_2 = true then (num_Parse.l0 kj5 l0 a1 (IntKind.u64.wrap ((IntKind.u64.wrap (10 * x4_2)) + (((rd l0 (ji12)) - 48) % 256))) (wrap64 (x5_2 + 1)) true) else (num_Parse.l0 kj5 l0 a1 (IntKind.u64.wrap ((IntKind.u64.wrap (10 * x4_2)) + (((rd l0 (ji12)) - 48) % 256))) (wrap64 (x5_2 + 1)) (decide (x4_2 > ((9223372036854775807 - (((rd l0 (ji12)) - 48) % 256)) / 10))))) else (none)) else (none)) = some (r1, r2, r3) := by first | (rw [hji12] at H; exact H) | (simp only [hji12] at H ⊢; exact H)
         have hji12w : (IntKind.i64.wrap (a1 + x5_2)) = ji12 := (i64_w _).trans hji12
         by_cases c13 : 0 ≤ (ji12)
         ·rw [if_pos c13] at H
          have c13b0 : decide (0 ≤ (ji12)) = true := decide_eq_true c13
          clear c13
          by_cases c14 : (ji12) < (l0.length : Int)
          ·rw [if_pos c14] at H
           have c14b0 : decide ((ji12) < (l0.length : Int)) = true := decide_eq_true c14
           clear c14
           by_cases c15 : x7_2 = true
           ·subst c15
            have H1 : (num_Parse.l0 kj5 l0 a1 (IntKind.u64.wrap ((IntKind.u64.wrap (10 * x4_2)) + (((rd l0 (ji12)) - 48) % 256))) (wrap64 (x5_2 + 1)) true) = some (r1, r2, r3) := by rw [if_pos rfl] at H; exact H
            clear H
            have H := H1
            clear H1
            have H' := Aside0.mk H
            clear H
            have p103 : 0 ≤ ((ji12) : Int) := oD
            have q103 : (ji12) < (l0.length : Int) := oD
            obtain ⟨ad103, e103, hx103_0⟩ := Kd.at_int HR0.out (ji12) p103 q103
            cases e103
            replace p103 := eq_true p103
            replace q103 := eq_true q103
            go_wp2
            go_step3
            (try simp only [Exit.then, Exit.inBlock, Lab.gotos])
            refine Lab.again HIH_0 kj5 ?lm1 ?lm2 ?lm3
            case lm1 => have := HJ2.out; have := HK2.out; have := HJ5.out; omega
            case lm2 => have := HJ2.out; have := HK2.out; have := HJ5.out; omega
            case lm3 =>
             (repeat apply Exists.intro)
             refine ⟨?rel, ?fr⟩
             case fr => (simp only [Act.put, List.setIfInBounds_toArray, List.set_cons_zero, List.set_cons_succ] <;> rfl)
             case rel => exact ⟨(IntKind.u64.wrap ((IntKind.u64.wrap (10 * x4_2)) + (((rd l0 (ji12)) - 48) % 256))), (wrap64 (x5_2 + 1)), (true), (by first | rfl | (simp; done) | (simp only [← hji12] <;> (first | rfl | simp)) | (simp [*]; done)), bS, bS, H', ⟨by have := HJ2.out; have := HK2.out; have := HJ5.out; omega⟩, by repeat (first | exact Drawn0.refl _ | apply Drawn0.step)⟩
           ·replace c15 := Bool.eq_false_iff.mpr c15
            subst c15
            have H1 : (num_Parse.l0 kj5 l0 a1 (IntKind.u64.wrap ((IntKind.u64.wrap (10 * x4_2)) + (((rd l0 (ji12)) - 48) % 256))) (wrap64 (x5_2 + 1)) (decide (x4_2 > ((9223372036854775807 - (((rd l0 (ji12)) - 48) % 256)) / 10)))) = some (r1, r2, r3) := by rw [if_neg (show ¬ (false = true) by decide)] at H; exact H
            clear H
            have H := H1
            clear H1
            have H' := Aside0.mk H
            clear H
            have p103 : 0 ≤ ((ji12) : Int) := oD
            have q103 : (ji12) < (l0.length : Int) := oD
            obtain ⟨ad103, e103, hx103_0⟩ := Kd.at_int HR0.out (ji12) p103 q103
            cases e103
            replace p103 := eq_true p103
            replace q103 := eq_true q103
            go_wp2
            go_step3
            (try simp only [Exit.then, Exit.inBlock, Lab.gotos])
            refine Lab.again HIH_0 kj5 ?lm1 ?lm2 ?lm3
            case lm1 => have := HJ2.out; have := HK2.out; have := HJ5.out; omega
            case lm2 => have := HJ2.out; have := HK2.out; have := HJ5.out; omega
            case lm3 =>
             (repeat apply Exists.intro)
             refine ⟨?rel, ?fr⟩
             case fr => (simp only [Act.put, List.setIfInBounds_toArray, List.set_cons_zero, List.set_cons_succ] <;> rfl)
             case rel => exact ⟨(IntKind.u64.wrap ((IntKind.u64.wrap (10 * x4_2)) + (((rd l0 (ji12)) - 48) % 256))), (wrap64 (x5_2 + 1)), (decide (x4_2 > ((9223372036854775807 - (((rd l0 (ji12)) - 48) % 256)) / 10))), (by first | rfl | (simp; done) | (simp only [← hji12] <;> (first | rfl | simp)) | (simp [*]; done)), bS, (by first | rfl | (simp; done) | (simp only [← hji12] <;> (first | rfl | simp)) | (simp [*]; done)), H', ⟨by have := HJ2.out; have := HK2.out; have := HJ5.out; omega⟩, by repeat (first | exact Drawn0.refl _ | apply Drawn0.step)⟩
          ·rw [if_neg c14] at H
           exact absurd H (by simp)
         ·rw [if_neg c13] at H
          exact absurd H (by simp)
        ·replace c11 := Bool.eq_false_iff.mpr c11
         subst c11
         have H1 : (if x5_2 = 0 then (some (0, 0, 2)) else (if x5_2 > 1 then (if 0 ≤ a1 then (if a1 < (l0.length : Int) then (num_Parse.j3 kj5 x4_2 x5_2 x7_2 ((rd l0 a1) == 48)) else (none)) else (none)) else (num_Parse.j3 kj5 x4_2 x5_2 x7_2 false))) = some (r1, r2, r3) := by rw [if_neg (show ¬ (false = true) by decide)] at H; exact H
         clear H
         have H := H1
         clear H1
         by_cases c16 : x5_2 = 0
         ·rw [if_pos c16] at H
          have c16b0 : (x5_2 == 0) = true := beq_iff_eq.mpr c16
          have c16b1 : (x5_2 != 0) = false := bne_eq_false_iff_eq.mpr c16
          clear c16
          simp only [Option.some.injEq, Prod.mk.injEq] at H
          obtain ⟨rfl, rfl, rfl⟩ := H
          go_wp2
          (try simp only [Exit.then, Exit.inBlock, Lab.gotos])
          go_ret3
          exact ⟨by first | rfl | (simp; done) | (simp [*]; done) | (simp [bne]; done) | (unfold wrap64; simp_all; done) | (unfold wrap64; simp_all; omega), by repeat (first | exact Drawn0.refl _ | apply Drawn0.step)⟩
         ·rw [if_neg c16] at H
          have c16b0 : (x5_2 == 0) = false := beq_eq_false_iff_ne.mpr c16
          have c16b1 : (x5_2 != 0) = true := bne_iff_ne.mpr c16
          have HC17 := Aside0.mk H
          clear H
          go_upto_region 11 with (fail)
          go_cut [57] (fun v57 wc => ∃ (kq : Nat) (x57_16 : Bool), v57 = .bool x57_16 ∧ Aside0 (num_Parse.j3 kq x4_2 x5_2 x7_2 x57_16 = some (r1, r2, r3)) ∧ Aside0 (kq ≤ kj5) ∧ Drawn0 w wc)
          case first =>
           have H := HC17.out
           clear HC17
           by_cases c18 : x5_2 > 1
           ·rw [if_pos c18] at H
            have c18b0 : decide (1 < x5_2) = true := decide_eq_true c18
            clear c18
            (first | rw [c18b0] | (simp only [i64_w, i32_w]; rw [c18b0]) | skip)
            by_cases c19 : 0 ≤ a1
            ·rw [if_pos c19] at H
             have c19b0 : decide (0 ≤ a1) = true := decide_eq_true c19
             clear c19
             by_cases c20 : a1 < (l0.length : Int)
             ·rw [if_pos c20] at H
              have c20b0 : decide (a1 < (l0.length : Int)) = true := decide_eq_true c20
              clear c20
              have H' := Aside0.mk H
              clear H
              have p104 : 0 ≤ (a1 : Int) := oD
              have q104 : a1 < (l0.length : Int) := oD
              obtain ⟨ad104, e104, hx104_0⟩ := Kd.at_int HR0.out a1 p104 q104
              cases e104
              replace p104 := eq_true p104
              replace q104 := eq_true q104
              go_wp2
              go_meet
              case rel => exact ⟨_, (((rd l0 a1) == 48)), bS, H', ⟨by have := HJ2.out; have := HK2.out; have := HJ5.out; first | omega | exact Nat.le_refl _⟩, by repeat (first | exact Drawn0.refl _ | apply Drawn0.step)⟩
             ·rw [if_neg c20] at H
              exact absurd H (by simp)
            ·rw [if_neg c19] at H
             exact absurd H (by simp)
           ·rw [if_neg c18] at H
            have c18b0 : decide (1 < x5_2) = false := decide_eq_false c18
            clear c18
            (first | rw [c18b0] | (simp only [i64_w, i32_w]; rw [c18b0]) | skip)
            have H' := Aside0.mk H
            clear H
            go_wp2
            go_meet
            case rel => exact ⟨_, (false), bS, H', ⟨by have := HJ2.out; have := HK2.out; have := HJ5.out; first | omega | exact Nat.le_refl _⟩, by repeat (first | exact Drawn0.refl _ | apply Drawn0.step)⟩
          case rest =>
           clear HC17
           try clear c1
           try clear p1
           try clear q1
           try clear hx1
           try clear c2
           try clear p2
           try clear p3
           try clear c4
           try clear c4b0
           try clear c5
           try clear p6
           try clear c7
           try clear c7b0
           try clear c9
           try clear c9b0
           try clear p10
           try clear q10
           try clear hx10
           try clear c11
           try clear c13
           try clear c13b0
           try clear c14
           try clear c14b0
           try clear c15
           try clear c16
           try clear c16b0
           try clear c16b1
           try clear c18
           try clear c18b0
           try clear c19
           try clear c19b0
           try clear c20
           try clear c20b0
           try clear hx101_0
           try clear hx103_0
           try clear hx104_0
           try clear p1
           try clear p10
           try clear p101
           try clear p103
           try clear p104
           try clear p2
           try clear p3
           try clear p6
           try clear q1
           try clear q10
           try clear q101
           try clear q103
           try clear q104
           obtain ⟨kq, x57_16, rfl, HA, HJ16, ⟨mc16, rfl⟩⟩ := hcut
           cases kq with
           | zero => exact absurd HA.out (by simp [num_Parse.j3])
           | succ kj16 =>
            have H := HA.out
            clear HA
            simp only [num_Parse.j3] at H
            by_cases c21 : x57_16 = true
            ·subst c21
             have H1 : (some (0, 0, 3)) = some (r1, r2, r3) := by rw [if_pos rfl] at H; exact H
             clear H
             have H := H1
             clear H1
             simp only [Option.some.injEq, Prod.mk.injEq] at H
             obtain ⟨rfl, rfl, rfl⟩ := H
             go_wp2
             (try simp only [Exit.then, Exit.inBlock, Lab.gotos])
             go_ret3
             exact ⟨by first | rfl | (simp; done) | (simp [*]; done) | (simp [bne]; done) | (unfold wrap64; simp_all; done) | (unfold wrap64; simp_all; omega), by repeat (first | exact Drawn0.refl _ | apply Drawn0.step)⟩
            ·replace c21 := Bool.eq_false_iff.mpr c21
             subst c21
             have H1 : (if x7_2 = true then (some (0, 0, 4)) else (some (x4_2, x5_2, 0))) = some (r1, r2, r3) := by rw [if_neg (show ¬ (false = true) by decide)] at H; exact H
             clear H
             have H := H1
             clear H1
             by_cases c22 : x7_2 = true
             ·subst c22
              have H1 : (some (0, 0, 4)) = some (r1, r2, r3) := by rw [if_pos rfl] at H; exact H
              clear H
              have H := H1
              clear H1
              simp only [Option.some.injEq, Prod.mk.injEq] at H
              obtain ⟨rfl, rfl, rfl⟩ := H
              go_wp2
              (try simp only [Exit.then, Exit.inBlock, Lab.gotos])
              go_ret3
              exact ⟨by first | rfl | (simp; done) | (simp [*]; done) | (simp [bne]; done) | (unfold wrap64; simp_all; done) | (unfold wrap64; simp_all; omega), by repeat (first | exact Drawn0.refl _ | apply Drawn0.step)⟩
             ·replace c22 := Bool.eq_false_iff.mpr c22
              subst c22
              have H1 : (some (x4_2, x5_2, 0)) = some (r1, r2, r3) := by rw [if_neg (show ¬ (false = true) by decide)] at H; exact H
              clear H
              have H := H1
              clear H1
              simp only [Option.some.injEq, Prod.mk.injEq] at H
              obtain ⟨rfl, rfl, rfl⟩ := H
              go_wp2
              (try simp only [Exit.then, Exit.inBlock, Lab.gotos])
              go_ret3
              exact ⟨by first | rfl | (simp; done) | (simp [*]; done) | (simp [bne]; done) | (unfold wrap64; simp_all; done) | (unfold wrap64; simp_all; omega), by repeat (first | exact Drawn0.refl _ | apply Drawn0.step)⟩

end Go.Proofs.YtildmfegfkiknaaDoor.X
