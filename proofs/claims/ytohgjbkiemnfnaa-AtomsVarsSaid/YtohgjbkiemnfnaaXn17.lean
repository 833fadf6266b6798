-- Written by a program of this session (wip/xp), out of the translation. Not trusted: Lean checks it.
import Derived.Test.YtohgjbkiemnfnaaX0
-- shrunk
namespace Go.Proofs.Ytohgjbkiemnfnaa.X
open Go.RowKit Go.Proofs.YtohgjbkiemnfnaaW.PrintWords Go.Proofs.YtohgjbkiemnfnaaW.PrintLast Go.Proofs.YtohgjbkiemnfnaaW.PrintMore
attribute [local go_sem] Lab.str_gtr Lab.str_leq Lab.str_geq max2_int min2_int max_two min_two max_three min_three max_four min_four   -- for this text's walks alone
set_option linter.unusedVariables false
set_option linter.unusedSimpArgs false

/-! ### ferruleref13_Good: function 17 -/
mutual
def ferruleref13_Good.l0 : Nat → List Int → Int → Int → Option (Bool)
 | 0, _, _, _ => none
 | k + 1, x0, x3, x4 => if x4 < (x0.length : Int) then (if 0 ≤ x4 then (if (rd x0 x4) < 0 then (ferruleref13_Good.j1 k x0 x3 x4 true) else (ferruleref13_Good.j1 k x0 x3 x4 (decide ((rd x0 x4) > 16777216)))) else (none)) else (some true)
def ferruleref13_Good.j1 : Nat → List Int → Int → Int → Bool → Option (Bool)
 | 0, _, _, _, _ => none
 | k + 1, x0, x3, x4, x25 => if x25 = true then (some false) else (if 0 ≤ x4 then (if x4 < (x0.length : Int) then (if (rd x0 x4) > 0 then (if (wrap64 ((wrap64 ((wrap64 ((wrap64 (x3 + 1)) + (rd x0 x4))) + (rd x0 x4))) - 1)) > 16777216 then (some false) else (ferruleref13_Good.l0 k x0 (wrap64 ((wrap64 ((wrap64 ((wrap64 (x3 + 1)) + (rd x0 x4))) + (rd x0 x4))) - 1)) (wrap64 (x4 + 1)))) else (if (wrap64 ((wrap64 (x3 + 1)) + (rd x0 x4))) > 16777216 then (some false) else (ferruleref13_Good.l0 k x0 (wrap64 ((wrap64 (x3 + 1)) + (rd x0 x4))) (wrap64 (x4 + 1))))) else (none)) else (none))
end
def ferruleref13_Good.f (k : Nat) (l0 : List Int) : Option (Bool) := if (l0.length : Int) > 4096 then (some false) else (ferruleref13_Good.l0 k l0 0 0)
theorem ferruleref13_Good.mono_l : ∀ k, (∀ y0 y1 y2, LeO (ferruleref13_Good.l0 k y0 y1 y2) (ferruleref13_Good.l0 (k + 1) y0 y1 y2)) ∧ (∀ y0 y1 y2 y3, LeO (ferruleref13_Good.j1 k y0 y1 y2 y3) (ferruleref13_Good.j1 (k + 1) y0 y1 y2 y3))
 | 0 => ⟨fun _ _ _ r h => by simp [ferruleref13_Good.l0] at h, fun _ _ _ _ r h => by simp [ferruleref13_Good.j1] at h⟩
 | k + 1 => by
  obtain ⟨ih0, ih1⟩ := ferruleref13_Good.mono_l k
  refine ⟨?_, ?_⟩
  ·intro y0 y1 y2
   unfold ferruleref13_Good.l0
   repeat' first
   | (with_reducible exact ih0 _ _ _)
   | (with_reducible exact ih1 _ _ _ _)
   | (with_reducible exact LeO.refl _)
   | (with_reducible exact LeO.none _)
   | (with_reducible refine LeO.ite ?_ ?_)
   | (with_reducible refine LeO.bind ?_ (fun _ => ?_))
   | exact ih0 _ _ _
   | exact ih1 _ _ _ _
   | exact LeO.none _
   | refine LeO.ite ?_ ?_
   | refine LeO.bind ?_ (fun _ => ?_)
  ·intro y0 y1 y2 y3
   unfold ferruleref13_Good.j1
   repeat' first
   | (with_reducible exact ih0 _ _ _)
   | (with_reducible exact ih1 _ _ _ _)
   | (with_reducible exact LeO.refl _)
   | (with_reducible exact LeO.none _)
   | (with_reducible refine LeO.ite ?_ ?_)
   | (with_reducible refine LeO.bind ?_ (fun _ => ?_))
   | exact ih0 _ _ _
   | exact ih1 _ _ _ _
   | exact LeO.none _
   | refine LeO.ite ?_ ?_
   | refine LeO.bind ?_ (fun _ => ?_)
theorem ferruleref13_Good.mono : ∀ a0 k, LeO (ferruleref13_Good.f k a0) (ferruleref13_Good.f (k + 1) a0) := by
 intro a0 k
 obtain ⟨ih0, ih1⟩ := ferruleref13_Good.mono_l k
 unfold ferruleref13_Good.f
 repeat' first
   | (with_reducible exact ih0 _ _ _)
   | (with_reducible exact ih1 _ _ _ _)
   | (with_reducible exact LeO.refl _)
   | (with_reducible exact LeO.none _)
   | (with_reducible refine LeO.ite ?_ ?_)
   | (with_reducible refine LeO.bind ?_ (fun _ => ?_))
   | exact ih0 _ _ _
   | exact ih1 _ _ _ _
   | exact LeO.none _
   | refine LeO.ite ?_ ?_
   | refine LeO.bind ?_ (fun _ => ?_)
set_option maxHeartbeats 8000000 in
set_option maxRecDepth 100000 in
theorem ferruleref13_Good.calls (k : Nat) (A0 : Option Addr) (c0 : Nat) (l0 : List Int) (r : Bool) (w : World) (hr0 : Kd.C (Kd.int .i64) w A0 l0.length l0) (hc0 : l0.length ≤ c0) (h : ferruleref13_Good.f k l0 = some r) :
  Calls Try.prog 17 #[.slice A0 l0.length c0] w fun e w' => e = .returned (.bool r) ∧ Drawn0 w w' := by
 have HR0 := Aside0.mk hr0
 have HC0 := Aside0.mk hc0
 clear hr0 hc0
 have H : (if (l0.length : Int) > 4096 then (some false) else (ferruleref13_Good.l0 k l0 0 0)) = some r := h
 clear h
 by_cases c2 : (l0.length : Int) > 4096
 ·rw [if_pos c2] at H
  have c2b0 : decide (4096 < (l0.length : Int)) = true := decide_eq_true c2
  have c2b1 : decide (4096 < l0.length) = true := decide_eq_true (by omega)
  clear c2
  obtain rfl := Option.some.inj H
  go_enter Try.func17, Try.ntmps17
  go_wp2
  go_ret
  exact ⟨by first | rfl | (simp; done) | (simp [*]; done) | (simp [bne]; done) | (unfold wrap64; simp_all; done) | (unfold wrap64; simp_all; omega), by repeat (first | exact Drawn0.refl _ | apply Drawn0.step)⟩
 ·rw [if_neg c2] at H
  have c2b0 : decide (4096 < (l0.length : Int)) = false := decide_eq_false c2
  have c2b1 : decide (4096 < l0.length) = false := decide_eq_false (by omega)
  clear c2
  have H' := Aside0.mk H
  clear H
  go_enter Try.func17, Try.ntmps17
  go_wp2
  go_loopg [3, 4] k (fun kq v3 v4 w' => ∃ (x3_1 : Int) (x4_1 : Int), v3 = .int .i64 x3_1 ∧ v4 = .int .i64 x4_1 ∧ Aside0 (ferruleref13_Good.l0 kq l0 x3_1 x4_1 = some r) ∧ Aside0 (kq ≤ k) ∧ Drawn0 w w')
  case atStart => exact ⟨(0), (0), bS, bS, H', ⟨Nat.le_refl _⟩, by repeat (first | exact Drawn0.refl _ | apply Drawn0.step)⟩
  case round =>
   clear H'
   try clear c1
   try clear c2
   try clear c2b0
   try clear c2b1
   try clear p2
   obtain ⟨x3_1, x4_1, rfl, rfl, HA, HK1, ⟨m1, rfl⟩⟩ := hrel
   cases gk with
   | zero => exact absurd HA.out (by simp [ferruleref13_Good.l0])
   | succ k1 =>
    have H := HA.out
    clear HA
    simp only [ferruleref13_Good.l0] at H
    by_cases c3 : x4_1 < (l0.length : Int)
    ·rw [if_pos c3] at H
     have c3b0 : decide (x4_1 < (l0.length : Int)) = true := decide_eq_true c3
     clear c3
     have HC4 := Aside0.mk H
     clear H
     go_upto_region 7 with (fail)
     go_cut [25] (fun v25 wc => ∃ (kq : Nat) (x25_3 : Bool), v25 = .bool x25_3 ∧ Aside0 (ferruleref13_Good.j1 kq l0 x3_1 x4_1 x25_3 = some r) ∧ Aside0 (kq ≤ k1) ∧ Drawn0 w wc)
     case first =>
      have H := HC4.out
      clear HC4
      by_cases c5 : 0 ≤ x4_1
      ·rw [if_pos c5] at H
       have c5b0 : decide (0 ≤ x4_1) = true := decide_eq_true c5
       clear c5
       (first | rw [c5b0] | (simp only [i64_w, i32_w]; rw [c5b0]) | skip)
       by_cases c6 : (rd l0 x4_1) < 0
       ·rw [if_pos c6] at H
        have c6b0 : decide ((rd l0 x4_1) < 0) = true := decide_eq_true c6
        clear c6
        have H' := Aside0.mk H
        clear H
        have p101 : 0 ≤ (x4_1 : Int) := oD
        have q101 : x4_1 < (l0.length : Int) := oD
        obtain ⟨ad101, e101, hx101_0⟩ := Kd.at_int HR0.out x4_1 p101 q101
        cases e101
        replace p101 := eq_true p101
        replace q101 := eq_true q101
        go_wp2
        go_meet
        case rel => exact ⟨_, (true), bS, H', ⟨by have := HK1.out; first | omega | exact Nat.le_refl _⟩, by repeat (first | exact Drawn0.refl _ | apply Drawn0.step)⟩
       ·rw [if_neg c6] at H
        have c6b0 : decide ((rd l0 x4_1) < 0) = false := decide_eq_false c6
        clear c6
        have H' := Aside0.mk H
        clear H
        have p101 : 0 ≤ (x4_1 : Int) := oD
        have q101 : x4_1 < (l0.length : Int) := oD
        obtain ⟨ad101, e101, hx101_0⟩ := Kd.at_int HR0.out x4_1 p101 q101
        cases e101
        replace p101 := eq_true p101
        replace q101 := eq_true q101
        have p102 : 0 ≤ (x4_1 : Int) := oD
        have q102 : x4_1 < (l0.length : Int) := oD
        obtain ⟨ad102, e102, hx102_0⟩ := Kd.at_int HR0.out x4_1 p102 q102
        obtain rfl : ad101 = ad102 := (by injection e102)
        replace p102 := eq_true p102
        replace q102 := eq_true q102
        go_wp2
        go_meet
        case rel => exact ⟨_, (decide ((rd l0 x4_1) > 16777216)), bS, H', ⟨by have := HK1.out; first | omega | exact Nat.le_refl _⟩, by repeat (first | exact Drawn0.refl _ | apply Drawn0.step)⟩
      ·rw [if_neg c5] at H
       exact absurd H (by simp)
     case rest =>
      clear HC4
      try clear c1
      try clear p1
      try clear q1
      try clear hx1
      try clear c2
      try clear c2b0
      try clear c2b1
      try clear p2
      try clear c3
      try clear c3b0
      try clear c5
      try clear c5b0
      try clear c6
      try clear c6b0
      try clear p6
      try clear hx101_0
      try clear hx102_0
      try clear p101
      try clear p102
      try clear p2
      try clear q101
      try clear q102
      obtain ⟨kq, x25_3, rfl, HA, HJ3, ⟨mc3, rfl⟩⟩ := hcut
      cases kq with
      | zero => exact absurd HA.out (by simp [ferruleref13_Good.j1])
      | succ kj3 =>
       have H := HA.out
       clear HA
       simp only [ferruleref13_Good.j1] at H
       by_cases c7 : x25_3 = true
       ·subst c7
        have H1 : (some false) = some r := by rw [if_pos rfl] at H; exact H
        clear H
        have H := H1
        clear H1
        obtain rfl := Option.some.inj H
        go_wp2
        go_ret
        exact ⟨by first | rfl | (simp; done) | (simp [*]; done) | (simp [bne]; done) | (unfold wrap64; simp_all; done) | (unfold wrap64; simp_all; omega), by repeat (first | exact Drawn0.refl _ | apply Drawn0.step)⟩
       ·replace c7 := Bool.eq_false_iff.mpr c7
        subst c7
        have H1 : (if 0 ≤ x4_1 then (if x4_1 < (l0.length : Int) then (if (rd l0 x4_1) > 0 then (if (wrap64 ((wrap64 ((wrap64 ((wrap64 (x3_1 + 1)) + (rd l0 x4_1))) + (rd l0 x4_1))) - 1)) > 16777216 then (some false) else (ferruleref13_Good.l0 kj3 l0 (wrap64 ((wrap64 ((wrap64 ((wrap64 (x3_1 + 1)) + (rd l0 x4_1))) + (rd l0 x4_1))) - 1)) (wrap64 (x4_1 + 1)))) else (if (wrap64 ((wrap64 (x3_1 + 1)) + (rd l0 x4_1))) > 16777216 then (some false) else (ferruleref13_Good.l0 kj3 l0 (wrap64 ((wrap64 (x3_1 + 1)) + (rd l0 x4_1))) (wrap64 (x4_1 + 1))))) else (none)) else (none)) = some r := by rw [if_neg (show ¬ (false = true) by decide)] at H; exact H
        clear H
        have H := H1
        clear H1
        by_cases c8 : 0 ≤ x4_1
        ·rw [if_pos c8] at H
         have c8b0 : decide (0 ≤ x4_1) = true := decide_eq_true c8
         clear c8
         by_cases c9 : x4_1 < (l0.length : Int)
         ·rw [if_pos c9] at H
          have c9b0 : decide (x4_1 < (l0.length : Int)) = true := decide_eq_true c9
          clear c9
          by_cases c10 : (rd l0 x4_1) > 0
          ·rw [if_pos c10] at H
           have c10b0 : decide (0 < (rd l0 x4_1)) = true := decide_eq_true c10
           clear c10
           by_cases c11 : (wrap64 ((wrap64 ((wrap64 ((wrap64 (x3_1 + 1)) + (rd l0 x4_1))) + (rd l0 x4_1))) - 1)) > 16777216
           ·rw [if_pos c11] at H
            have c11b0 : decide (16777216 < (wrap64 ((wrap64 ((wrap64 ((wrap64 (x3_1 + 1)) + (rd l0 x4_1))) + (rd l0 x4_1))) - 1))) = true := decide_eq_true c11
            clear c11
            obtain rfl := Option.some.inj H
            have p103 : 0 ≤ (x4_1 : Int) := oD
            have q103 : x4_1 < (l0.length : Int) := oD
            obtain ⟨ad103, e103, hx103_0⟩ := Kd.at_int HR0.out x4_1 p103 q103
            cases e103
            replace p103 := eq_true p103
            replace q103 := eq_true q103
            have p104 : 0 ≤ (x4_1 : Int) := oD
            have q104 : x4_1 < (l0.length : Int) := oD
            obtain ⟨ad104, e104, hx104_0⟩ := Kd.at_int HR0.out x4_1 p104 q104
            obtain rfl : ad103 = ad104 := (by injection e104)
            replace p104 := eq_true p104
            replace q104 := eq_true q104
            have p105 : 0 ≤ (x4_1 : Int) := oD
            have q105 : x4_1 < (l0.length : Int) := oD
            obtain ⟨ad105, e105, hx105_0⟩ := Kd.at_int HR0.out x4_1 p105 q105
            obtain rfl : ad103 = ad105 := (by injection e105)
            replace p105 := eq_true p105
            replace q105 := eq_true q105
            go_wp2
            go_ret
            exact ⟨by first | rfl | (simp; done) | (simp [*]; done) | (simp [bne]; done) | (unfold wrap64; simp_all; done) | (unfold wrap64; simp_all; omega), by repeat (first | exact Drawn0.refl _ | apply Drawn0.step)⟩
           ·rw [if_neg c11] at H
            have c11b0 : decide (16777216 < (wrap64 ((wrap64 ((wrap64 ((wrap64 (x3_1 + 1)) + (rd l0 x4_1))) + (rd l0 x4_1))) - 1))) = false := decide_eq_false c11
            clear c11
            have H' := Aside0.mk H
            clear H
            have p103 : 0 ≤ (x4_1 : Int) := oD
            have q103 : x4_1 < (l0.length : Int) := oD
            obtain ⟨ad103, e103, hx103_0⟩ := Kd.at_int HR0.out x4_1 p103 q103
            cases e103
            replace p103 := eq_true p103
            replace q103 := eq_true q103
            have p104 : 0 ≤ (x4_1 : Int) := oD
            have q104 : x4_1 < (l0.length : Int) := oD
            obtain ⟨ad104, e104, hx104_0⟩ := Kd.at_int HR0.out x4_1 p104 q104
            obtain rfl : ad103 = ad104 := (by injection e104)
            replace p104 := eq_true p104
            replace q104 := eq_true q104
            have p105 : 0 ≤ (x4_1 : Int) := oD
            have q105 : x4_1 < (l0.length : Int) := oD
            obtain ⟨ad105, e105, hx105_0⟩ := Kd.at_int HR0.out x4_1 p105 q105
            obtain rfl : ad103 = ad105 := (by injection e105)
            replace p105 := eq_true p105
            replace q105 := eq_true q105
            go_wp2
            go_roundg kj3
            case measure => have := HK1.out; have := HJ3.out; omega
            case rel => exact ⟨(wrap64 ((wrap64 ((wrap64 ((wrap64 (x3_1 + 1)) + (rd l0 x4_1))) + (rd l0 x4_1))) - 1)), (wrap64 (x4_1 + 1)), bS, bS, H', ⟨by have := HK1.out; have := HJ3.out; omega⟩, by repeat (first | exact Drawn0.refl _ | apply Drawn0.step)⟩
          ·rw [if_neg c10] at H
           have c10b0 : decide (0 < (rd l0 x4_1)) = false := decide_eq_false c10
           clear c10
           by_cases c12 : (wrap64 ((wrap64 (x3_1 + 1)) + (rd l0 x4_1))) > 16777216
           ·rw [if_pos c12] at H
            have c12b0 : decide (16777216 < (wrap64 ((wrap64 (x3_1 + 1)) + (rd l0 x4_1)))) = true := decide_eq_true c12
            clear c12
            obtain rfl := Option.some.inj H
            have p103 : 0 ≤ (x4_1 : Int) := oD
            have q103 : x4_1 < (l0.length : Int) := oD
            obtain ⟨ad103, e103, hx103_0⟩ := Kd.at_int HR0.out x4_1 p103 q103
            cases e103
            replace p103 := eq_true p103
            replace q103 := eq_true q103
            have p104 : 0 ≤ (x4_1 : Int) := oD
            have q104 : x4_1 < (l0.length : Int) := oD
            obtain ⟨ad104, e104, hx104_0⟩ := Kd.at_int HR0.out x4_1 p104 q104
            obtain rfl : ad103 = ad104 := (by injection e104)
            replace p104 := eq_true p104
            replace q104 := eq_true q104
            go_wp2
            go_ret
            exact ⟨by first | rfl | (simp; done) | (simp [*]; done) | (simp [bne]; done) | (unfold wrap64; simp_all; done) | (unfold wrap64; simp_all; omega), by repeat (first | exact Drawn0.refl _ | apply Drawn0.step)⟩
           ·rw [if_neg c12] at H
            have c12b0 : decide (16777216 < (wrap64 ((wrap64 (x3_1 + 1)) + (rd l0 x4_1)))) = false := decide_eq_false c12
            clear c12
            have H' := Aside0.mk H
            clear H
            have p103 : 0 ≤ (x4_1 : Int) := oD
            have q103 : x4_1 < (l0.length : Int) := oD
            obtain ⟨ad103, e103, hx103_0⟩ := Kd.at_int HR0.out x4_1 p103 q103
            cases e103
            replace p103 := eq_true p103
            replace q103 := eq_true q103
            have p104 : 0 ≤ (x4_1 : Int) := oD
            have q104 : x4_1 < (l0.length : Int) := oD
            obtain ⟨ad104, e104, hx104_0⟩ := Kd.at_int HR0.out x4_1 p104 q104
            obtain rfl : ad103 = ad104 := (by injection e104)
            replace p104 := eq_true p104
            replace q104 := eq_true q104
            go_wp2
            go_roundg kj3
            case measure => have := HK1.out; have := HJ3.out; omega
            case rel => exact ⟨(wrap64 ((wrap64 (x3_1 + 1)) + (rd l0 x4_1))), (wrap64 (x4_1 + 1)), bS, bS, H', ⟨by have := HK1.out; have := HJ3.out; omega⟩, by repeat (first | exact Drawn0.refl _ | apply Drawn0.step)⟩
         ·rw [if_neg c9] at H
          exact absurd H (by simp)
        ·rw [if_neg c8] at H
         exact absurd H (by simp)
    ·rw [if_neg c3] at H
     have c3b0 : decide (x4_1 < (l0.length : Int)) = false := decide_eq_false c3
     clear c3
     obtain rfl := Option.some.inj H
     go_wp2
     go_ret
     exact ⟨by first | rfl | (simp; done) | (simp [*]; done) | (simp [bne]; done) | (unfold wrap64; simp_all; done) | (unfold wrap64; simp_all; omega), by repeat (first | exact Drawn0.refl _ | apply Drawn0.step)⟩

end Go.Proofs.Ytohgjbkiemnfnaa.X
