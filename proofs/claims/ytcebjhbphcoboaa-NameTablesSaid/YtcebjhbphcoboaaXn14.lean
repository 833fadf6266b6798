-- Written by a program of this session (wip/xp), out of the translation. Not trusted: Lean checks it.
import Derived.Test.YtcebjhbphcoboaaX0
import Derived.Test.YtcebjhbphcoboaaXn19
-- shrunk
namespace Go.Proofs.Ytcebjhbphcoboaa.X
open Go.RowKit Go.Proofs.YtcebjhbphcoboaaW.PrintWords Go.Proofs.YtcebjhbphcoboaaW.PrintLast Go.Proofs.YtcebjhbphcoboaaW.PrintMore
attribute [local go_sem] Lab.str_gtr Lab.str_leq Lab.str_geq max2_int min2_int max_two min_two max_three min_three max_four min_four   -- for this text's walks alone
set_option linter.unusedVariables false
set_option linter.unusedSimpArgs false

/-! ### ferruleref08_Scan: function 14 -/
mutual
def ferruleref08_Scan.j0 : Nat → ByteArray → Int → Bool → Option (Int × Int)
 | 0, _, _, _ => none
 | k + 1, x0, x1, x14 => if x14 = true then (some (0, 1)) else (ferruleref08_Scan.l0 k x0 x1 0)
def ferruleref08_Scan.l0 : Nat → ByteArray → Int → Int → Option (Int × Int)
 | 0, _, _, _ => none
 | k + 1, x0, x1, x6 => if (wrap64 (x1 + x6)) < (x0.size : Int) then (if 0 ≤ (wrap64 (x1 + x6)) then ((ferruleref08_First.f (bt x0 (wrap64 (x1 + x6)))).bind fun t101 => (if t101 = true then (ferruleref08_Scan.l0 k x0 x1 (wrap64 (x6 + 1))) else (if x6 > 0 then (if (bt x0 (wrap64 (x1 + x6))) = 45 then (ferruleref08_Scan.l0 k x0 x1 (wrap64 (x6 + 1))) else (if (bt x0 (wrap64 (x1 + x6))) = 95 then (ferruleref08_Scan.l0 k x0 x1 (wrap64 (x6 + 1))) else (if (bt x0 (wrap64 (x1 + x6))) = 46 then (ferruleref08_Scan.l0 k x0 x1 (wrap64 (x6 + 1))) else (if x6 = 0 then (some (0, 12)) else (if x6 > 255 then (some (0, 12)) else (some (x6, 0))))))) else (if x6 = 0 then (some (0, 12)) else (if x6 > 255 then (some (0, 12)) else (some (x6, 0))))))) else (none)) else (if x6 = 0 then (some (0, 12)) else (if x6 > 255 then (some (0, 12)) else (some (x6, 0))))
end
def ferruleref08_Scan.f (k : Nat) (a0 : ByteArray) (a1 : Int) : Option (Int × Int) := if a1 < 0 then (ferruleref08_Scan.j0 k a0 a1 true) else (ferruleref08_Scan.j0 k a0 a1 (decide (a1 > (a0.size : Int))))
theorem ferruleref08_Scan.mono_l : ∀ k, (∀ y0 y1 y2, LeO (ferruleref08_Scan.j0 k y0 y1 y2) (ferruleref08_Scan.j0 (k + 1) y0 y1 y2)) ∧ (∀ y0 y1 y2, LeO (ferruleref08_Scan.l0 k y0 y1 y2) (ferruleref08_Scan.l0 (k + 1) y0 y1 y2))
 | 0 => ⟨fun _ _ _ r h => by simp [ferruleref08_Scan.j0] at h, fun _ _ _ r h => by simp [ferruleref08_Scan.l0] at h⟩
 | k + 1 => by
  obtain ⟨ih0, ih1⟩ := ferruleref08_Scan.mono_l k
  refine ⟨?_, ?_⟩
  ·intro y0 y1 y2
   unfold ferruleref08_Scan.j0
   repeat' first
   | (with_reducible exact ih0 _ _ _)
   | (with_reducible exact ih1 _ _ _)
   | (with_reducible exact LeO.refl _)
   | (with_reducible exact LeO.none _)
   | (with_reducible refine LeO.ite ?_ ?_)
   | (with_reducible refine LeO.bind ?_ (fun _ => ?_))
   | exact ih0 _ _ _
   | exact ih1 _ _ _
   | exact LeO.none _
   | refine LeO.ite ?_ ?_
   | refine LeO.bind ?_ (fun _ => ?_)
  ·intro y0 y1 y2
   unfold ferruleref08_Scan.l0
   repeat' first
   | (with_reducible exact ih0 _ _ _)
   | (with_reducible exact ih1 _ _ _)
   | (with_reducible exact LeO.refl _)
   | (with_reducible exact LeO.none _)
   | (with_reducible refine LeO.ite ?_ ?_)
   | (with_reducible refine LeO.bind ?_ (fun _ => ?_))
   | exact ih0 _ _ _
   | exact ih1 _ _ _
   | exact LeO.none _
   | refine LeO.ite ?_ ?_
   | refine LeO.bind ?_ (fun _ => ?_)
theorem ferruleref08_Scan.mono : ∀ a0 a1 k, LeO (ferruleref08_Scan.f k a0 a1) (ferruleref08_Scan.f (k + 1) a0 a1) := by
 intro a0 a1 k
 obtain ⟨ih0, ih1⟩ := ferruleref08_Scan.mono_l k
 unfold ferruleref08_Scan.f
 repeat' first
   | (with_reducible exact ih0 _ _ _)
   | (with_reducible exact ih1 _ _ _)
   | (with_reducible exact LeO.refl _)
   | (with_reducible exact LeO.none _)
   | (with_reducible refine LeO.ite ?_ ?_)
   | (with_reducible refine LeO.bind ?_ (fun _ => ?_))
   | exact ih0 _ _ _
   | exact ih1 _ _ _
   | exact LeO.none _
   | refine LeO.ite ?_ ?_
   | refine LeO.bind ?_ (fun _ => ?_)
set_option maxHeartbeats 8000000 in
set_option maxRecDepth 100000 in
theorem ferruleref08_Scan.calls (k : Nat) (a0 : ByteArray) (a1 : Int) (r1 : Int) (r2 : Int) (w : World) (h : ferruleref08_Scan.f k a0 a1 = some (r1, r2)) :
  Calls Try.prog 14 #[.string a0, .int .i64 a1] w fun e w' => e = .returned (.tuple #[.int .i64 r1, .int .i64 r2]) ∧ Drawn0 w w' := by
 have H : (if a1 < 0 then (ferruleref08_Scan.j0 k a0 a1 true) else (ferruleref08_Scan.j0 k a0 a1 (decide (a1 > (a0.size : Int))))) = some (r1, r2) := h
 clear h
 have HC3 := Aside0.mk H
 clear H
 go_enter Try.func14, Try.ntmps14
 go_upto_region 1 with (fail)
 go_cut [14] (fun v14 wc => ∃ (kq : Nat) (x14_2 : Bool), v14 = .bool x14_2 ∧ Aside0 (ferruleref08_Scan.j0 kq a0 a1 x14_2 = some (r1, r2)) ∧ Aside0 (kq ≤ k) ∧ Drawn0 w wc)
 case first =>
  have H := HC3.out
  clear HC3
  by_cases c4 : a1 < 0
  ·rw [if_pos c4] at H
   have c4b0 : decide (a1 < 0) = true := decide_eq_true c4
   clear c4
   (first | rw [c4b0] | (simp only [i64_w, i32_w]; rw [c4b0]) | skip)
   have H' := Aside0.mk H
   clear H
   go_wp2
   go_meet
   case rel => exact ⟨_, (true), bS, H', ⟨by first | omega | exact Nat.le_refl _⟩, by repeat (first | exact Drawn0.refl _ | apply Drawn0.step)⟩
  ·rw [if_neg c4] at H
   have c4b0 : decide (a1 < 0) = false := decide_eq_false c4
   clear c4
   (first | rw [c4b0] | (simp only [i64_w, i32_w]; rw [c4b0]) | skip)
   have H' := Aside0.mk H
   clear H
   go_wp2
   go_meet
   case rel => exact ⟨_, (decide (a1 > (a0.size : Int))), bS, H', ⟨by first | omega | exact Nat.le_refl _⟩, by repeat (first | exact Drawn0.refl _ | apply Drawn0.step)⟩
 case rest =>
  clear HC3
  try clear c1
  try clear p2
  try clear c4
  try clear c4b0
  obtain ⟨kq, x14_2, rfl, HA, HJ2, ⟨mc2, rfl⟩⟩ := hcut
  cases kq with
  | zero => exact absurd HA.out (by simp [ferruleref08_Scan.j0])
  | succ kj2 =>
   have H := HA.out
   clear HA
   simp only [ferruleref08_Scan.j0] at H
   by_cases c5 : x14_2 = true
   ·subst c5
    have H1 : (some (0, 1)) = some (r1, r2) := by rw [if_pos rfl] at H; exact H
    clear H
    have H := H1
    clear H1
    simp only [Option.some.injEq, Prod.mk.injEq] at H
    obtain ⟨rfl, rfl⟩ := H
    go_wp2
    go_ret2
    exact ⟨by first | rfl | (simp; done) | (simp [*]; done) | (simp [bne]; done) | (unfold wrap64; simp_all; done) | (unfold wrap64; simp_all; omega), by repeat (first | exact Drawn0.refl _ | apply Drawn0.step)⟩
   ·replace c5 := Bool.eq_false_iff.mpr c5
    subst c5
    have H1 : (ferruleref08_Scan.l0 kj2 a0 a1 0) = some (r1, r2) := by rw [if_neg (show ¬ (false = true) by decide)] at H; exact H
    clear H
    have H := H1
    clear H1
    have H' := Aside0.mk H
    clear H
    go_wp2
    go_loopg [6] kj2 (fun kq v6 w' => ∃ (x6_2 : Int), v6 = .int .i64 x6_2 ∧ Aside0 (ferruleref08_Scan.l0 kq a0 a1 x6_2 = some (r1, r2)) ∧ Aside0 (kq ≤ kj2) ∧ Drawn0 w w')
    case atStart => exact ⟨(0), bS, H', ⟨Nat.le_refl _⟩, by repeat (first | exact Drawn0.refl _ | apply Drawn0.step)⟩
    case round =>
     clear H'
     try clear c1
     try clear c2
     try clear p2
     try clear c4
     try clear c4b0
     try clear c5
     try clear p2
     obtain ⟨x6_2, rfl, HA, HK2, ⟨m2, rfl⟩⟩ := hrel
     cases gk with
     | zero => exact absurd HA.out (by simp [ferruleref08_Scan.l0])
     | succ k2 =>
      have H := HA.out
      clear HA
      simp only [ferruleref08_Scan.l0] at H
      by_cases c6 : (wrap64 (a1 + x6_2)) < (a0.size : Int)
      ·rw [if_pos c6] at H
       have c6b0 : decide ((wrap64 (a1 + x6_2)) < (a0.size : Int)) = true := decide_eq_true c6
       clear c6
       obtain ⟨ji7, hji7⟩ : ∃ j_ : Int, (wrap64 (a1 + x6_2)) = j_ := ⟨_, rfl⟩
       replace H : (if 0 ≤ (ji7) then ((ferruleref08_First.f (bt a0 (ji7))).bind fun t101 => (if t101 = true then (ferruleref08_Scan.l0 k2 a0 a1 (wrap64 (x6_2 + 1))) else (if x6_2 > 0 then (if (bt a0 (ji7)) = 45 then (ferruleref08_Scan.l0 k2 a0 a1 (wrap64 (x6_2 + 1))) else (if (bt a0 (ji7)) = 95 then (ferruleref08_Scan.l0 k2 a0 a1 (wrap64 (x6_2 + 1))) else (if (bt a0 (ji7)) = 46 then (ferruleref08_Scan.l0 k2 a0 a1 (wrap64 (x6_2 + 1))) else (if x6_2 = 0 then (some (0, 12)) else (if x6_2 > 255 then (some (0, 12)) else (some (x6_2, 0))))))) else (if x6_2 = 0 then (some (0, 12)) else (if x6_2 > 255 then (some (0, 12)) else (some (x6_2, 0))))))) else (none)) = some (r1, r2) := by first | (rw [hji7] at H; exact H) | (simp only [hji7] at H ⊢; exact H)
       (try rw [hji7] at c6b0)
       have hji7w : (IntKind.i64.wrap (a1 + x6_2)) = ji7 := (i64_w _).trans hji7
       by_cases c8 : 0 ≤ (ji7)
       ·rw [if_pos c8] at H
        have c8b0 : decide (0 ≤ (ji7)) = true := decide_eq_true c8
        clear c8
        replace H := Option.bind_eq_some_iff.mp H
        obtain ⟨t101, A100, H⟩ := H
        replace H : (if t101 = true then (ferruleref08_Scan.l0 k2 a0 a1 (wrap64 (x6_2 + 1))) else (if x6_2 > 0 then (if (bt a0 (ji7)) = 45 then (ferruleref08_Scan.l0 k2 a0 a1 (wrap64 (x6_2 + 1))) else (if (bt a0 (ji7)) = 95 then (ferruleref08_Scan.l0 k2 a0 a1 (wrap64 (x6_2 + 1))) else (if (bt a0 (ji7)) = 46 then (ferruleref08_Scan.l0 k2 a0 a1 (wrap64 (x6_2 + 1))) else (if x6_2 = 0 then (some (0, 12)) else (if x6_2 > 255 then (some (0, 12)) else (some (x6_2, 0))))))) else (if x6_2 = 0 then (some (0, 12)) else (if x6_2 > 255 then (some (0, 12)) else (some (x6_2, 0)))))) = some (r1, r2) := H
        have A10 := Aside0.mk A100
        clear A100
        by_cases c11 : t101 = true
        ·subst c11
         have H1 : (ferruleref08_Scan.l0 k2 a0 a1 (wrap64 (x6_2 + 1))) = some (r1, r2) := by rw [if_pos rfl] at H; exact H
         clear H
         have H := H1
         clear H1
         have H' := Aside0.mk H
         clear H
         have p9 : 0 ≤ ((ji7) : Int) := oD
         have q9 : (ji7) < (a0.size : Int) := oD
         have hx9 := bt_at a0 (ji7)
         replace p9 := eq_true p9
         replace q9 := eq_true q9
         go_wp2_with (first | (go_at_call 19; (with_reducible refine (ferruleref08_First.calls (bt a0 (ji7)) true _ A10.out).mono ?_); rintro e w' ⟨rfl, ⟨nd, rfl⟩⟩))
         go_roundg k2
         case measure => have := HJ2.out; have := HK2.out; omega
         case rel => exact ⟨(wrap64 (x6_2 + 1)), bS, H', ⟨by have := HJ2.out; have := HK2.out; omega⟩, by repeat (first | exact Drawn0.refl _ | apply Drawn0.step)⟩
        ·replace c11 := Bool.eq_false_iff.mpr c11
         subst c11
         have H1 : (if x6_2 > 0 then (if (bt a0 (ji7)) = 45 then (ferruleref08_Scan.l0 k2 a0 a1 (wrap64 (x6_2 + 1))) else (if (bt a0 (ji7)) = 95 then (ferruleref08_Scan.l0 k2 a0 a1 (wrap64 (x6_2 + 1))) else (if (bt a0 (ji7)) = 46 then (ferruleref08_Scan.l0 k2 a0 a1 (wrap64 (x6_2 + 1))) else (if x6_2 = 0 then (some (0, 12)) else (if x6_2 > 255 then (some (0, 12)) else (some (x6_2, 0))))))) else (if x6_2 = 0 then (some (0, 12)) else (if x6_2 > 255 then (some (0, 12)) else (some (x6_2, 0))))) = some (r1, r2) := by rw [if_neg (show ¬ (false = true) by decide)] at H; exact H
         clear H
         have H := H1
         clear H1
         by_cases c12 : x6_2 > 0
         ·rw [if_pos c12] at H
          have c12b0 : decide (0 < x6_2) = true := decide_eq_true c12
          clear c12
          by_cases c14 : (bt a0 (ji7)) = 45
          ·rw [if_pos c14] at H
           have c14b0 : ((bt a0 (ji7)) == 45) = true := beq_iff_eq.mpr c14
           have c14b1 : ((bt a0 (ji7)) != 45) = false := bne_eq_false_iff_eq.mpr c14
           clear c14
           have H' := Aside0.mk H
           clear H
           have p9 : 0 ≤ ((ji7) : Int) := oD
           have q9 : (ji7) < (a0.size : Int) := oD
           have hx9 := bt_at a0 (ji7)
           replace p9 := eq_true p9
           replace q9 := eq_true q9
           go_wp2_with (first | (go_at_call 19; (with_reducible refine (ferruleref08_First.calls (bt a0 (ji7)) false _ A10.out).mono ?_); rintro e w' ⟨rfl, ⟨nd, rfl⟩⟩; have p13 : 0 ≤ ((ji7) : Int) := oD; have q13 : (ji7) < (a0.size : Int) := oD; have hx13 := bt_at a0 (ji7); replace p13 := eq_true p13; replace q13 := eq_true q13))
           go_roundg k2
           case measure => have := HJ2.out; have := HK2.out; omega
           case rel => exact ⟨(wrap64 (x6_2 + 1)), bS, H', ⟨by have := HJ2.out; have := HK2.out; omega⟩, by repeat (first | exact Drawn0.refl _ | apply Drawn0.step)⟩
          ·rw [if_neg c14] at H
           have c14b0 : ((bt a0 (ji7)) == 45) = false := beq_eq_false_iff_ne.mpr c14
           have c14b1 : ((bt a0 (ji7)) != 45) = true := bne_iff_ne.mpr c14
           by_cases c16 : (bt a0 (ji7)) = 95
           ·rw [if_pos c16] at H
            have c16b0 : ((bt a0 (ji7)) == 95) = true := beq_iff_eq.mpr c16
            have c16b1 : ((bt a0 (ji7)) != 95) = false := bne_eq_false_iff_eq.mpr c16
            clear c16
            have H' := Aside0.mk H
            clear H
            have p9 : 0 ≤ ((ji7) : Int) := oD
            have q9 : (ji7) < (a0.size : Int) := oD
            have hx9 := bt_at a0 (ji7)
            replace p9 := eq_true p9
            replace q9 := eq_true q9
            go_wp2_with (first | (go_at_call 19; (with_reducible refine (ferruleref08_First.calls (bt a0 (ji7)) false _ A10.out).mono ?_); rintro e w' ⟨rfl, ⟨nd, rfl⟩⟩; have p13 : 0 ≤ ((ji7) : Int) := oD; have q13 : (ji7) < (a0.size : Int) := oD; have hx13 := bt_at a0 (ji7); replace p13 := eq_true p13; replace q13 := eq_true q13; have p15 : 0 ≤ ((ji7) : Int) := oD; have q15 : (ji7) < (a0.size : Int) := oD; have hx15 := bt_at a0 (ji7); replace p15 := eq_true p15; replace q15 := eq_true q15))
            go_roundg k2
            case measure => have := HJ2.out; have := HK2.out; omega
            case rel => exact ⟨(wrap64 (x6_2 + 1)), bS, H', ⟨by have := HJ2.out; have := HK2.out; omega⟩, by repeat (first | exact Drawn0.refl _ | apply Drawn0.step)⟩
           ·rw [if_neg c16] at H
            have c16b0 : ((bt a0 (ji7)) == 95) = false := beq_eq_false_iff_ne.mpr c16
            have c16b1 : ((bt a0 (ji7)) != 95) = true := bne_iff_ne.mpr c16
            by_cases c18 : (bt a0 (ji7)) = 46
            ·rw [if_pos c18] at H
             have c18b0 : ((bt a0 (ji7)) == 46) = true := beq_iff_eq.mpr c18
             have c18b1 : ((bt a0 (ji7)) != 46) = false := bne_eq_false_iff_eq.mpr c18
             clear c18
             have H' := Aside0.mk H
             clear H
             have p9 : 0 ≤ ((ji7) : Int) := oD
             have q9 : (ji7) < (a0.size : Int) := oD
             have hx9 := bt_at a0 (ji7)
             replace p9 := eq_true p9
             replace q9 := eq_true q9
             go_wp2_with (first | (go_at_call 19; (with_reducible refine (ferruleref08_First.calls (bt a0 (ji7)) false _ A10.out).mono ?_); rintro e w' ⟨rfl, ⟨nd, rfl⟩⟩; have p13 : 0 ≤ ((ji7) : Int) := oD; have q13 : (ji7) < (a0.size : Int) := oD; have hx13 := bt_at a0 (ji7); replace p13 := eq_true p13; replace q13 := eq_true q13; have p15 : 0 ≤ ((ji7) : Int) := oD; have q15 : (ji7) < (a0.size : Int) := oD; have hx15 := bt_at a0 (ji7); replace p15 := eq_true p15; replace q15 := eq_true q15; have p17 : 0 ≤ ((ji7) : Int) := oD; have q17 : (ji7) < (a0.size : Int) := oD; have hx17 := bt_at a0 (ji7); replace p17 := eq_true p17; replace q17 := eq_true q17))
             go_roundg k2
             case measure => have := HJ2.out; have := HK2.out; omega
             case rel => exact ⟨(wrap64 (x6_2 + 1)), bS, H', ⟨by have := HJ2.out; have := HK2.out; omega⟩, by repeat (first | exact Drawn0.refl _ | apply Drawn0.step)⟩
            ·rw [if_neg c18] at H
             have c18b0 : ((bt a0 (ji7)) == 46) = false := beq_eq_false_iff_ne.mpr c18
             have c18b1 : ((bt a0 (ji7)) != 46) = true := bne_iff_ne.mpr c18
             by_cases c19 : x6_2 = 0
             ·rw [if_pos c19] at H
              have c19b0 : (x6_2 == 0) = true := beq_iff_eq.mpr c19
              have c19b1 : (x6_2 != 0) = false := bne_eq_false_iff_eq.mpr c19
              clear c19
              simp only [Option.some.injEq, Prod.mk.injEq] at H
              obtain ⟨rfl, rfl⟩ := H
              have p9 : 0 ≤ ((ji7) : Int) := oD
              have q9 : (ji7) < (a0.size : Int) := oD
              have hx9 := bt_at a0 (ji7)
              replace p9 := eq_true p9
              replace q9 := eq_true q9
              go_wp2_with (first | (go_at_call 19; (with_reducible refine (ferruleref08_First.calls (bt a0 (ji7)) false _ A10.out).mono ?_); rintro e w' ⟨rfl, ⟨nd, rfl⟩⟩; have p13 : 0 ≤ ((ji7) : Int) := oD; have q13 : (ji7) < (a0.size : Int) := oD; have hx13 := bt_at a0 (ji7); replace p13 := eq_true p13; replace q13 := eq_true q13; have p15 : 0 ≤ ((ji7) : Int) := oD; have q15 : (ji7) < (a0.size : Int) := oD; have hx15 := bt_at a0 (ji7); replace p15 := eq_true p15; replace q15 := eq_true q15; have p17 : 0 ≤ ((ji7) : Int) := oD; have q17 : (ji7) < (a0.size : Int) := oD; have hx17 := bt_at a0 (ji7); replace p17 := eq_true p17; replace q17 := eq_true q17))
              go_ret2
              exact ⟨by first | rfl | (simp; done) | (simp only [← hji7] <;> (first | rfl | simp)) | (simp [*]; done), by repeat (first | exact Drawn0.refl _ | apply Drawn0.step)⟩
             ·rw [if_neg c19] at H
              have c19b0 : (x6_2 == 0) = false := beq_eq_false_iff_ne.mpr c19
              have c19b1 : (x6_2 != 0) = true := bne_iff_ne.mpr c19
              by_cases c20 : x6_2 > 255
              ·rw [if_pos c20] at H
               have c20b0 : decide (255 < x6_2) = true := decide_eq_true c20
               clear c20
               simp only [Option.some.injEq, Prod.mk.injEq] at H
               obtain ⟨rfl, rfl⟩ := H
               have p9 : 0 ≤ ((ji7) : Int) := oD
               have q9 : (ji7) < (a0.size : Int) := oD
               have hx9 := bt_at a0 (ji7)
               replace p9 := eq_true p9
               replace q9 := eq_true q9
               go_wp2_with (first | (go_at_call 19; (with_reducible refine (ferruleref08_First.calls (bt a0 (ji7)) false _ A10.out).mono ?_); rintro e w' ⟨rfl, ⟨nd, rfl⟩⟩; have p13 : 0 ≤ ((ji7) : Int) := oD; have q13 : (ji7) < (a0.size : Int) := oD; have hx13 := bt_at a0 (ji7); replace p13 := eq_true p13; replace q13 := eq_true q13; have p15 : 0 ≤ ((ji7) : Int) := oD; have q15 : (ji7) < (a0.size : Int) := oD; have hx15 := bt_at a0 (ji7); replace p15 := eq_true p15; replace q15 := eq_true q15; have p17 : 0 ≤ ((ji7) : Int) := oD; have q17 : (ji7) < (a0.size : Int) := oD; have hx17 := bt_at a0 (ji7); replace p17 := eq_true p17; replace q17 := eq_true q17))
               go_ret2
               exact ⟨by first | rfl | (simp; done) | (simp only [← hji7] <;> (first | rfl | simp)) | (simp [*]; done), by repeat (first | exact Drawn0.refl _ | apply Drawn0.step)⟩
              ·rw [if_neg c20] at H
               have c20b0 : decide (255 < x6_2) = false := decide_eq_false c20
               clear c20
               simp only [Option.some.injEq, Prod.mk.injEq] at H
               obtain ⟨rfl, rfl⟩ := H
               have p9 : 0 ≤ ((ji7) : Int) := oD
               have q9 : (ji7) < (a0.size : Int) := oD
               have hx9 := bt_at a0 (ji7)
               replace p9 := eq_true p9
               replace q9 := eq_true q9
               go_wp2_with (first | (go_at_call 19; (with_reducible refine (ferruleref08_First.calls (bt a0 (ji7)) false _ A10.out).mono ?_); rintro e w' ⟨rfl, ⟨nd, rfl⟩⟩; have p13 : 0 ≤ ((ji7) : Int) := oD; have q13 : (ji7) < (a0.size : Int) := oD; have hx13 := bt_at a0 (ji7); replace p13 := eq_true p13; replace q13 := eq_true q13; have p15 : 0 ≤ ((ji7) : Int) := oD; have q15 : (ji7) < (a0.size : Int) := oD; have hx15 := bt_at a0 (ji7); replace p15 := eq_true p15; replace q15 := eq_true q15; have p17 : 0 ≤ ((ji7) : Int) := oD; have q17 : (ji7) < (a0.size : Int) := oD; have hx17 := bt_at a0 (ji7); replace p17 := eq_true p17; replace q17 := eq_true q17))
               go_ret2
               exact ⟨by first | rfl | (simp; done) | (simp only [← hji7] <;> (first | rfl | simp)) | (simp [*]; done), by repeat (first | exact Drawn0.refl _ | apply Drawn0.step)⟩
         ·rw [if_neg c12] at H
          have c12b0 : decide (0 < x6_2) = false := decide_eq_false c12
          clear c12
          by_cases c21 : x6_2 = 0
          ·rw [if_pos c21] at H
           have c21b0 : (x6_2 == 0) = true := beq_iff_eq.mpr c21
           have c21b1 : (x6_2 != 0) = false := bne_eq_false_iff_eq.mpr c21
           clear c21
           simp only [Option.some.injEq, Prod.mk.injEq] at H
           obtain ⟨rfl, rfl⟩ := H
           have p9 : 0 ≤ ((ji7) : Int) := oD
           have q9 : (ji7) < (a0.size : Int) := oD
           have hx9 := bt_at a0 (ji7)
           replace p9 := eq_true p9
           replace q9 := eq_true q9
           go_wp2_with (first | (go_at_call 19; (with_reducible refine (ferruleref08_First.calls (bt a0 (ji7)) false _ A10.out).mono ?_); rintro e w' ⟨rfl, ⟨nd, rfl⟩⟩))
           go_ret2
           exact ⟨by first | rfl | (simp; done) | (simp only [← hji7] <;> (first | rfl | simp)) | (simp [*]; done), by repeat (first | exact Drawn0.refl _ | apply Drawn0.step)⟩
          ·rw [if_neg c21] at H
           have c21b0 : (x6_2 == 0) = false := beq_eq_false_iff_ne.mpr c21
           have c21b1 : (x6_2 != 0) = true := bne_iff_ne.mpr c21
           by_cases c22 : x6_2 > 255
           ·rw [if_pos c22] at H
            have c22b0 : decide (255 < x6_2) = true := decide_eq_true c22
            clear c22
            simp only [Option.some.injEq, Prod.mk.injEq] at H
            obtain ⟨rfl, rfl⟩ := H
            have p9 : 0 ≤ ((ji7) : Int) := oD
            have q9 : (ji7) < (a0.size : Int) := oD
            have hx9 := bt_at a0 (ji7)
            replace p9 := eq_true p9
            replace q9 := eq_true q9
            go_wp2_with (first | (go_at_call 19; (with_reducible refine (ferruleref08_First.calls (bt a0 (ji7)) false _ A10.out).mono ?_); rintro e w' ⟨rfl, ⟨nd, rfl⟩⟩))
            go_ret2
            exact ⟨by first | rfl | (simp; done) | (simp only [← hji7] <;> (first | rfl | simp)) | (simp [*]; done), by repeat (first | exact Drawn0.refl _ | apply Drawn0.step)⟩
           ·rw [if_neg c22] at H
            have c22b0 : decide (255 < x6_2) = false := decide_eq_false c22
            clear c22
            simp only [Option.some.injEq, Prod.mk.injEq] at H
            obtain ⟨rfl, rfl⟩ := H
            have p9 : 0 ≤ ((ji7) : Int) := oD
            have q9 : (ji7) < (a0.size : Int) := oD
            have hx9 := bt_at a0 (ji7)
            replace p9 := eq_true p9
            replace q9 := eq_true q9
            go_wp2_with (first | (go_at_call 19; (with_reducible refine (ferruleref08_First.calls (bt a0 (ji7)) false _ A10.out).mono ?_); rintro e w' ⟨rfl, ⟨nd, rfl⟩⟩))
            go_ret2
            exact ⟨by first | rfl | (simp; done) | (simp only [← hji7] <;> (first | rfl | simp)) | (simp [*]; done), by repeat (first | exact Drawn0.refl _ | apply Drawn0.step)⟩
       ·rw [if_neg c8] at H
        exact absurd H (by simp)
      ·rw [if_neg c6] at H
       have c6b0 : decide ((wrap64 (a1 + x6_2)) < (a0.size : Int)) = false := decide_eq_false c6
       clear c6
       by_cases c23 : x6_2 = 0
       ·rw [if_pos c23] at H
        have c23b0 : (x6_2 == 0) = true := beq_iff_eq.mpr c23
        have c23b1 : (x6_2 != 0) = false := bne_eq_false_iff_eq.mpr c23
        clear c23
        simp only [Option.some.injEq, Prod.mk.injEq] at H
        obtain ⟨rfl, rfl⟩ := H
        go_wp2
        go_ret2
        exact ⟨by first | rfl | (simp; done) | (simp [*]; done) | (simp [bne]; done) | (unfold wrap64; simp_all; done) | (unfold wrap64; simp_all; omega), by repeat (first | exact Drawn0.refl _ | apply Drawn0.step)⟩
       ·rw [if_neg c23] at H
        have c23b0 : (x6_2 == 0) = false := beq_eq_false_iff_ne.mpr c23
        have c23b1 : (x6_2 != 0) = true := bne_iff_ne.mpr c23
        by_cases c24 : x6_2 > 255
        ·rw [if_pos c24] at H
         have c24b0 : decide (255 < x6_2) = true := decide_eq_true c24
         clear c24
         simp only [Option.some.injEq, Prod.mk.injEq] at H
         obtain ⟨rfl, rfl⟩ := H
         go_wp2
         go_ret2
         exact ⟨by first | rfl | (simp; done) | (simp [*]; done) | (simp [bne]; done) | (unfold wrap64; simp_all; done) | (unfold wrap64; simp_all; omega), by repeat (first | exact Drawn0.refl _ | apply Drawn0.step)⟩
        ·rw [if_neg c24] at H
         have c24b0 : decide (255 < x6_2) = false := decide_eq_false c24
         clear c24
         simp only [Option.some.injEq, Prod.mk.injEq] at H
         obtain ⟨rfl, rfl⟩ := H
         go_wp2
         go_ret2
         exact ⟨by first | rfl | (simp; done) | (simp [*]; done) | (simp [bne]; done) | (unfold wrap64; simp_all; done) | (unfold wrap64; simp_all; omega), by repeat (first | exact Drawn0.refl _ | apply Drawn0.step)⟩

end Go.Proofs.Ytcebjhbphcoboaa.X
