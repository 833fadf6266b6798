-- Written by a program of this session (wip/xp), out of the translation. Not trusted: Lean checks it.
import Derived.Test.YtcebjhbphcoboaaX0
import Derived.Test.YtcebjhbphcoboaaXn53
import Derived.Test.YtcebjhbphcoboaaXn54
-- shrunk
namespace Go.Proofs.Ytcebjhbphcoboaa.X
open Go.RowKit Go.Proofs.YtcebjhbphcoboaaW.PrintWords Go.Proofs.YtcebjhbphcoboaaW.PrintLast Go.Proofs.YtcebjhbphcoboaaW.PrintMore
attribute [local go_sem] Lab.str_gtr Lab.str_leq Lab.str_geq max2_int min2_int max_two min_two max_three min_three max_four min_four   -- for this text's walks alone
set_option linter.unusedVariables false
set_option linter.unusedSimpArgs false

/-! ### name_Scan: function 13 -/
mutual
def name_Scan.j0 : Nat → List Int → Int → Int → Bool → Option (Int × Int)
 | 0, _, _, _, _ => none
 | k + 1, x0, x1, x4, x13 => if x13 = true then (some (0, 1)) else (if x1 = (x0.length : Int) then (name_Scan.j1 k x0 x1 x4 true) else (if 0 ≤ x1 then (if x1 < (x0.length : Int) then ((name_first.f (rd x0 x1)).bind fun t102 => (name_Scan.j1 k x0 x1 x4 (!t102))) else (none)) else (none)))
def name_Scan.j1 : Nat → List Int → Int → Int → Bool → Option (Int × Int)
 | 0, _, _, _, _ => none
 | k + 1, x0, x1, x4, x25 => if x25 = true then (some (0, 12)) else (name_Scan.l0 k x0 x1 x4)
def name_Scan.l0 : Nat → List Int → Int → Int → Option (Int × Int)
 | 0, _, _, _ => none
 | k + 1, x0, x1, x4 => if (wrap64 (x1 + x4)) < (x0.length : Int) then (if 0 ≤ (wrap64 (x1 + x4)) then ((name_isByte.f (rd x0 (wrap64 (x1 + x4)))).bind fun t104 => (name_Scan.j3 k x0 x1 x4 t104)) else (none)) else (name_Scan.j3 k x0 x1 x4 false)
def name_Scan.j3 : Nat → List Int → Int → Int → Bool → Option (Int × Int)
 | 0, _, _, _, _ => none
 | k + 1, x0, x1, x4, x40 => if x40 = true then (name_Scan.l0 k x0 x1 (wrap64 (x4 + 1))) else (if x4 > 255 then (some (0, 12)) else (some (x4, 0)))
end
def name_Scan.f (k : Nat) (l0 : List Int) (a1 : Int) : Option (Int × Int) := if a1 < 0 then (name_Scan.j0 k l0 a1 0 true) else (name_Scan.j0 k l0 a1 0 (decide (a1 > (l0.length : Int))))
theorem name_Scan.mono_l : ∀ k, (∀ y0 y1 y2 y3, LeO (name_Scan.j0 k y0 y1 y2 y3) (name_Scan.j0 (k + 1) y0 y1 y2 y3)) ∧ (∀ y0 y1 y2 y3, LeO (name_Scan.j1 k y0 y1 y2 y3) (name_Scan.j1 (k + 1) y0 y1 y2 y3)) ∧ (∀ y0 y1 y2, LeO (name_Scan.l0 k y0 y1 y2) (name_Scan.l0 (k + 1) y0 y1 y2)) ∧ (∀ y0 y1 y2 y3, LeO (name_Scan.j3 k y0 y1 y2 y3) (name_Scan.j3 (k + 1) y0 y1 y2 y3))
 | 0 => ⟨fun _ _ _ _ r h => by simp [name_Scan.j0] at h, fun _ _ _ _ r h => by simp [name_Scan.j1] at h, fun _ _ _ r h => by simp [name_Scan.l0] at h, fun _ _ _ _ r h => by simp [name_Scan.j3] at h⟩
 | k + 1 => by
  obtain ⟨ih0, ih1, ih2, ih3⟩ := name_Scan.mono_l k
  refine ⟨?_, ?_, ?_, ?_⟩
  ·intro y0 y1 y2 y3
   unfold name_Scan.j0
   repeat' first
   | (with_reducible exact ih0 _ _ _ _)
   | (with_reducible exact ih1 _ _ _ _)
   | (with_reducible exact ih2 _ _ _)
   | (with_reducible exact ih3 _ _ _ _)
   | (with_reducible exact LeO.refl _)
   | (with_reducible exact LeO.none _)
   | (with_reducible refine LeO.ite ?_ ?_)
   | (with_reducible refine LeO.bind ?_ (fun _ => ?_))
   | exact ih0 _ _ _ _
   | exact ih1 _ _ _ _
   | exact ih2 _ _ _
   | exact ih3 _ _ _ _
   | exact LeO.none _
   | refine LeO.ite ?_ ?_
   | refine LeO.bind ?_ (fun _ => ?_)
  ·intro y0 y1 y2 y3
   unfold name_Scan.j1
   repeat' first
   | (with_reducible exact ih0 _ _ _ _)
   | (with_reducible exact ih1 _ _ _ _)
   | (with_reducible exact ih2 _ _ _)
   | (with_reducible exact ih3 _ _ _ _)
   | (with_reducible exact LeO.refl _)
   | (with_reducible exact LeO.none _)
   | (with_reducible refine LeO.ite ?_ ?_)
   | (with_reducible refine LeO.bind ?_ (fun _ => ?_))
   | exact ih0 _ _ _ _
   | exact ih1 _ _ _ _
   | exact ih2 _ _ _
   | exact ih3 _ _ _ _
   | exact LeO.none _
   | refine LeO.ite ?_ ?_
   | refine LeO.bind ?_ (fun _ => ?_)
  ·intro y0 y1 y2
   unfold name_Scan.l0
   repeat' first
   | (with_reducible exact ih0 _ _ _ _)
   | (with_reducible exact ih1 _ _ _ _)
   | (with_reducible exact ih2 _ _ _)
   | (with_reducible exact ih3 _ _ _ _)
   | (with_reducible exact LeO.refl _)
   | (with_reducible exact LeO.none _)
   | (with_reducible refine LeO.ite ?_ ?_)
   | (with_reducible refine LeO.bind ?_ (fun _ => ?_))
   | exact ih0 _ _ _ _
   | exact ih1 _ _ _ _
   | exact ih2 _ _ _
   | exact ih3 _ _ _ _
   | exact LeO.none _
   | refine LeO.ite ?_ ?_
   | refine LeO.bind ?_ (fun _ => ?_)
  ·intro y0 y1 y2 y3
   unfold name_Scan.j3
   repeat' first
   | (with_reducible exact ih0 _ _ _ _)
   | (with_reducible exact ih1 _ _ _ _)
   | (with_reducible exact ih2 _ _ _)
   | (with_reducible exact ih3 _ _ _ _)
   | (with_reducible exact LeO.refl _)
   | (with_reducible exact LeO.none _)
   | (with_reducible refine LeO.ite ?_ ?_)
   | (with_reducible refine LeO.bind ?_ (fun _ => ?_))
   | exact ih0 _ _ _ _
   | exact ih1 _ _ _ _
   | exact ih2 _ _ _
   | exact ih3 _ _ _ _
   | exact LeO.none _
   | refine LeO.ite ?_ ?_
   | refine LeO.bind ?_ (fun _ => ?_)
theorem name_Scan.mono : ∀ a0 a1 k, LeO (name_Scan.f k a0 a1) (name_Scan.f (k + 1) a0 a1) := by
 intro a0 a1 k
 obtain ⟨ih0, ih1, ih2, ih3⟩ := name_Scan.mono_l k
 unfold name_Scan.f
 repeat' first
   | (with_reducible exact ih0 _ _ _ _)
   | (with_reducible exact ih1 _ _ _ _)
   | (with_reducible exact ih2 _ _ _)
   | (with_reducible exact ih3 _ _ _ _)
   | (with_reducible exact LeO.refl _)
   | (with_reducible exact LeO.none _)
   | (with_reducible refine LeO.ite ?_ ?_)
   | (with_reducible refine LeO.bind ?_ (fun _ => ?_))
   | exact ih0 _ _ _ _
   | exact ih1 _ _ _ _
   | exact ih2 _ _ _
   | exact ih3 _ _ _ _
   | exact LeO.none _
   | refine LeO.ite ?_ ?_
   | refine LeO.bind ?_ (fun _ => ?_)
set_option maxHeartbeats 8000000 in
set_option maxRecDepth 100000 in
theorem name_Scan.calls (k : Nat) (A0 : Option Addr) (c0 : Nat) (l0 : List Int) (a1 : Int) (r1 : Int) (r2 : Int) (w : World) (hr0 : Kd.C (Kd.int .u8) w A0 l0.length l0) (hc0 : l0.length ≤ c0) (h : name_Scan.f k l0 a1 = some (r1, r2)) :
  Calls Try.prog 13 #[.slice A0 l0.length c0, .int .i64 a1] w fun e w' => e = .returned (.tuple #[.int .i64 r1, .int .i64 r2]) ∧ Drawn0 w w' := by
 have HR0 := Aside0.mk hr0
 have HC0 := Aside0.mk hc0
 clear hr0 hc0
 have H : (if a1 < 0 then (name_Scan.j0 k l0 a1 0 true) else (name_Scan.j0 k l0 a1 0 (decide (a1 > (l0.length : Int))))) = some (r1, r2) := h
 clear h
 have HC3 := Aside0.mk H
 clear H
 go_enter Try.func13, Try.ntmps13
 go_wp2
 refine Lab.wp_scope_lab (Lab.scopeOf Try.f13) ?sc k ?_
 case sc => kernel_rfl
 go_upto_region 1 with (fail)
 go_cut [13] (fun v13 wc => ∃ (kq : Nat) (x13_2 : Bool), v13 = .bool x13_2 ∧ Aside0 (name_Scan.j0 kq l0 a1 0 x13_2 = some (r1, r2)) ∧ Aside0 (kq ≤ k) ∧ Drawn0 w wc)
 case first =>
  have H := HC3.out
  clear HC3
  by_cases c4 : a1 < 0
  ·rw [if_pos c4] at H
   have c4b0 : decide (a1 < 0) = true := decide_eq_true c4
   clear c4
   (first | rw [c4b0] | (simp only [i64_w, i32_w]; rw [c4b0]) | skip)
   have H' := Aside0.mk H
   clear H
   go_wp2
   go_meet
   case rel => exact ⟨_, (true), bS, H', ⟨by first | omega | exact Nat.le_refl _⟩, by repeat (first | exact Drawn0.refl _ | apply Drawn0.step)⟩
  ·rw [if_neg c4] at H
   have c4b0 : decide (a1 < 0) = false := decide_eq_false c4
   clear c4
   (first | rw [c4b0] | (simp only [i64_w, i32_w]; rw [c4b0]) | skip)
   have H' := Aside0.mk H
   clear H
   go_wp2
   go_meet
   case rel => exact ⟨_, (decide (a1 > (l0.length : Int))), bS, H', ⟨by first | omega | exact Nat.le_refl _⟩, by repeat (first | exact Drawn0.refl _ | apply Drawn0.step)⟩
 case rest =>
  clear HC3
  try clear c1
  try clear p2
  try clear c4
  try clear c4b0
  obtain ⟨kq, x13_2, rfl, HA, HJ2, ⟨mc2, rfl⟩⟩ := hcut
  cases kq with
  | zero => exact absurd HA.out (by simp [name_Scan.j0])
  | succ kj2 =>
   have H := HA.out
   clear HA
   simp only [name_Scan.j0] at H
   by_cases c5 : x13_2 = true
   ·subst c5
    have H1 : (some (0, 1)) = some (r1, r2) := by rw [if_pos rfl] at H; exact H
    clear H
    have H := H1
    clear H1
    simp only [Option.some.injEq, Prod.mk.injEq] at H
    obtain ⟨rfl, rfl⟩ := H
    go_wp2
    (try simp only [Exit.then, Exit.inBlock, Lab.gotos])
    go_ret2
    exact ⟨by first | rfl | (simp; done) | (simp [*]; done) | (simp [bne]; done) | (unfold wrap64; simp_all; done) | (unfold wrap64; simp_all; omega), by repeat (first | exact Drawn0.refl _ | apply Drawn0.step)⟩
   ·replace c5 := Bool.eq_false_iff.mpr c5
    subst c5
    have H1 : (if a1 = (l0.length : Int) then (name_Scan.j1 kj2 l0 a1 0 true) else (if 0 ≤ a1 then (if a1 < (l0.length : Int) then ((name_first.f (rd l0 a1)).bind fun t102 => (name_Scan.j1 kj2 l0 a1 0 (!t102))) else (none)) else (none))) = some (r1, r2) := by rw [if_neg (show ¬ (false = true) by decide)] at H; exact H
    clear H
    have H := H1
    clear H1
    have HC6 := Aside0.mk H
    clear H
    go_upto_region 3 with (fail)
    go_cut [25] (fun v25 wc => ∃ (kq : Nat) (x25_5 : Bool), v25 = .bool x25_5 ∧ Aside0 (name_Scan.j1 kq l0 a1 0 x25_5 = some (r1, r2)) ∧ Aside0 (kq ≤ kj2) ∧ Drawn0 w wc)
    case first =>
     have H := HC6.out
     clear HC6
     by_cases c7 : a1 = (l0.length : Int)
     ·rw [if_pos c7] at H
      have c7b0 : (a1 == (l0.length : Int)) = true := beq_iff_eq.mpr c7
      have c7b1 : (a1 != (l0.length : Int)) = false := bne_eq_false_iff_eq.mpr c7
      clear c7
      (first | rw [c7b0] | (simp only [i64_w, i32_w]; rw [c7b0]) | skip)
      have H' := Aside0.mk H
      clear H
      go_wp2
      go_meet
      case rel => exact ⟨_, (true), bS, H', ⟨by have := HJ2.out; first | omega | exact Nat.le_refl _⟩, by repeat (first | exact Drawn0.refl _ | apply Drawn0.step)⟩
     ·rw [if_neg c7] at H
      have c7b0 : (a1 == (l0.length : Int)) = false := beq_eq_false_iff_ne.mpr c7
      have c7b1 : (a1 != (l0.length : Int)) = true := bne_iff_ne.mpr c7
      (first | rw [c7b0] | (simp only [i64_w, i32_w]; rw [c7b0]) | skip)
      by_cases c8 : 0 ≤ a1
      ·rw [if_pos c8] at H
       have c8b0 : decide (0 ≤ a1) = true := decide_eq_true c8
       clear c8
       by_cases c9 : a1 < (l0.length : Int)
       ·rw [if_pos c9] at H
        have c9b0 : decide (a1 < (l0.length : Int)) = true := decide_eq_true c9
        clear c9
        replace H := Option.bind_eq_some_iff.mp H
        obtain ⟨t102, A100, H⟩ := H
        replace H : (name_Scan.j1 kj2 l0 a1 0 (!t102)) = some (r1, r2) := H
        have A10 := Aside0.mk A100
        clear A100
        have H' := Aside0.mk H
        clear H
        have p101 : 0 ≤ (a1 : Int) := oD
        have q101 : a1 < (l0.length : Int) := oD
        obtain ⟨ad101, e101, hx101_0⟩ := Kd.at_int HR0.out a1 p101 q101
        cases e101
        replace p101 := eq_true p101
        replace q101 := eq_true q101
        go_wp2_with (first | (go_at_call 53; (with_reducible refine (name_first.calls (rd l0 a1) t102 _ A10.out).mono ?_); rintro e w' ⟨rfl, ⟨nd, rfl⟩⟩))
        go_meet
        case rel => exact ⟨_, (!t102), bS, H', ⟨by have := HJ2.out; first | omega | exact Nat.le_refl _⟩, by repeat (first | exact Drawn0.refl _ | apply Drawn0.step)⟩
       ·rw [if_neg c9] at H
        exact absurd H (by simp)
      ·rw [if_neg c8] at H
       exact absurd H (by simp)
    case rest =>
     clear HC6
     try clear c1
     try clear p1
     try clear q1
     try clear hx1
     try clear c2
     try clear p2
     try clear c4
     try clear c4b0
     try clear c5
     try clear p6
     try clear c7
     try clear c7b0
     try clear c7b1
     try clear c8
     try clear c8b0
     try clear c9
     try clear c9b0
     try clear p10
     try clear q10
     try clear hx10
     try clear hx101_0
     try clear p101
     try clear p2
     try clear q101
     obtain ⟨kq, x25_5, rfl, HA, HJ5, ⟨mc5, rfl⟩⟩ := hcut
     cases kq with
     | zero => exact absurd HA.out (by simp [name_Scan.j1])
     | succ kj5 =>
      have H := HA.out
      clear HA
      simp only [name_Scan.j1] at H
      by_cases c11 : x25_5 = true
      ·subst c11
       have H1 : (some (0, 12)) = some (r1, r2) := by rw [if_pos rfl] at H; exact H
       clear H
       have H := H1
       clear H1
       simp only [Option.some.injEq, Prod.mk.injEq] at H
       obtain ⟨rfl, rfl⟩ := H
       go_wp2
       (try simp only [Exit.then, Exit.inBlock, Lab.gotos])
       go_ret2
       exact ⟨by first | rfl | (simp; done) | (simp [*]; done) | (simp [bne]; done) | (unfold wrap64; simp_all; done) | (unfold wrap64; simp_all; omega), by repeat (first | exact Drawn0.refl _ | apply Drawn0.step)⟩
      ·replace c11 := Bool.eq_false_iff.mpr c11
       subst c11
       have H1 : (name_Scan.l0 kj5 l0 a1 0) = some (r1, r2) := by rw [if_neg (show ¬ (false = true) by decide)] at H; exact H
       clear H
       have H := H1
       clear H1
       have H' := Aside0.mk H
       clear H
       go_wp2
       go_step3
       go_step
       (try go_step)
       refine Lab.wp_at_label (l := 0) (fun a0_ kq a_ w_ => ∃ u4 : Value, ((fun kq v4 w' => ∃ (x4_3 : Int), v4 = .int .i64 x4_3 ∧ Aside0 (name_Scan.l0 kq l0 a1 x4_3 = some (r1, r2)) ∧ Aside0 (kq ≤ kj5) ∧ Drawn0 w w') kq u4 w_) ∧ a_ = ((((((((((((((((((((((((((((((((((((((((((a0_.put (some 4) u4).put (some 5) (Lab.tmp a_ 5)).put (some 6) (Lab.tmp a_ 6)).put (some 7) (Lab.tmp a_ 7)).put (some 8) (Lab.tmp a_ 8)).put (some 9) (Lab.tmp a_ 9)).put (some 10) (Lab.tmp a_ 10)).put (some 11) (Lab.tmp a_ 11)).put (some 12) (Lab.tmp a_ 12)).put (some 13) (Lab.tmp a_ 13)).put (some 14) (Lab.tmp a_ 14)).put (some 15) (Lab.tmp a_ 15)).put (some 16) (Lab.tmp a_ 16)).put (some 17) (Lab.tmp a_ 17)).put (some 18) (Lab.tmp a_ 18)).put (some 19) (Lab.tmp a_ 19)).put (some 20) (Lab.tmp a_ 20)).put (some 21) (Lab.tmp a_ 21)).put (some 22) (Lab.tmp a_ 22)).put (some 23) (Lab.tmp a_ 23)).put (some 24) (Lab.tmp a_ 24)).put (some 25) (Lab.tmp a_ 25)).put (some 26) (Lab.tmp a_ 26)).put (some 27) (Lab.tmp a_ 27)).put (some 28) (Lab.tmp a_ 28)).put (some 29) (Lab.tmp a_ 29)).put (some 30) (Lab.tmp a_ 30)).put (some 31) (Lab.tmp a_ 31)).put (some 32) (Lab.tmp a_ 32)).put (some 33) (Lab.tmp a_ 33)).put (some 34) (Lab.tmp a_ 34)).put (some 35) (Lab.tmp a_ 35)).put (some 36) (Lab.tmp a_ 36)).put (some 37) (Lab.tmp a_ 37)).put (some 38) (Lab.tmp a_ 38)).put (some 39) (Lab.tmp a_ 39)).put (some 40) (Lab.tmp a_ 40)).put (some 41) (Lab.tmp a_ 41)).put (some 42) (Lab.tmp a_ 42)).put (some 43) (Lab.tmp a_ 43)).put (some 44) (Lab.tmp a_ 44)).put (some 45) (Lab.tmp a_ 45))) kj5 ?fl (by have := HJ2.out; have := HJ5.out; first | omega | exact Nat.le_refl _) ?atStart ?round
       case fl => kernel_rfl
       case atStart =>
        (repeat apply Exists.intro)
        refine ⟨?rel, ?fr⟩
        case fr => (simp only [Act.put, List.setIfInBounds_toArray, List.set_cons_zero, List.set_cons_succ] <;> rfl)
        case rel => exact ⟨(0), bS, H', ⟨Nat.le_refl _⟩, by repeat (first | exact Drawn0.refl _ | apply Drawn0.step)⟩
       case round =>
        intro gk a_ wr hle_ hinv HIH_0
        clear hle_
        obtain ⟨u4, hrel, hfr_⟩ := hinv
        generalize hU_ : Lab.tmp a_ = U_ at hfr_
        clear hU_
        subst hfr_
        (try dsimp only at hrel)
        simp only [Act.put, List.setIfInBounds_toArray, List.set_cons_zero, List.set_cons_succ]
        clear H'
        try clear c1
        try clear p1
        try clear q1
        try clear hx1
        try clear c2
        try clear p2
        try clear p3
        try clear c4
        try clear c4b0
        try clear c5
        try clear p6
        try clear c7
        try clear c7b0
        try clear c7b1
        try clear c8
        try clear c8b0
        try clear c9
        try clear c9b0
        try clear p10
        try clear q10
        try clear hx10
        try clear c11
        try clear hx101_0
        try clear p1
        try clear p10
        try clear p101
        try clear p2
        try clear p6
        try clear q1
        try clear q10
        try clear q101
        obtain ⟨x4_3, rfl, HA, HK3, ⟨m3, rfl⟩⟩ := hrel
        cases gk with
        | zero => exact absurd HA.out (by simp [name_Scan.l0])
        | succ k3 =>
         have H := HA.out
         clear HA
         simp only [name_Scan.l0] at H
         have HC12 := Aside0.mk H
         clear H
         go_upto_region 5 with (fail)
         go_cut [40] (fun v40 wc => ∃ (kq : Nat) (x40_11 : Bool), v40 = .bool x40_11 ∧ Aside0 (name_Scan.j3 kq l0 a1 x4_3 x40_11 = some (r1, r2)) ∧ Aside0 (kq ≤ k3) ∧ Drawn0 w wc)
         case first =>
          have H := HC12.out
          clear HC12
          by_cases c13 : (wrap64 (a1 + x4_3)) < (l0.length : Int)
          ·rw [if_pos c13] at H
           have c13b0 : decide ((wrap64 (a1 + x4_3)) < (l0.length : Int)) = true := decide_eq_true c13
           clear c13
           (first | rw [c13b0] | (simp only [i64_w, i32_w]; rw [c13b0]) | skip)
           obtain ⟨ji14, hji14⟩ : ∃ j_ : Int, (wrap64 (a1 + x4_3)) = j_ := ⟨_, rfl⟩
           replace H : (if 0 ≤ (ji14) then ((name_isByte.f (rd l0 (ji14))).bind fun t104 => (name_Scan.j3 k3 l0 a1 x4_3 t104)) else (none)) = some (r1, r2) := by first | (rw [hji14] at H; exact H) | (simp only [hji14] at H ⊢; exact H)
           (try rw [hji14] at c13b0)
           have hji14w : (IntKind.i64.wrap (a1 + x4_3)) = ji14 := (i64_w _).trans hji14
           by_cases c15 : 0 ≤ (ji14)
           ·rw [if_pos c15] at H
            have c15b0 : decide (0 ≤ (ji14)) = true := decide_eq_true c15
            clear c15
            replace H := Option.bind_eq_some_iff.mp H
            obtain ⟨t104, A160, H⟩ := H
            replace H : (name_Scan.j3 k3 l0 a1 x4_3 t104) = some (r1, r2) := H
            have A16 := Aside0.mk A160
            clear A160
            have H' := Aside0.mk H
            clear H
            have p103 : 0 ≤ ((ji14) : Int) := oD
            have q103 : (ji14) < (l0.length : Int) := oD
            obtain ⟨ad103, e103, hx103_0⟩ := Kd.at_int HR0.out (ji14) p103 q103
            cases e103
            replace p103 := eq_true p103
            replace q103 := eq_true q103
            go_wp2_with (first | (go_at_call 54; (with_reducible refine (name_isByte.calls (rd l0 (ji14)) t104 _ A16.out).mono ?_); rintro e w' ⟨rfl, ⟨nd, rfl⟩⟩))
            go_meet
            case rel => exact ⟨_, (t104), bS, H', ⟨by have := HJ2.out; have := HJ5.out; have := HK3.out; first | omega | exact Nat.le_refl _⟩, by repeat (first | exact Drawn0.refl _ | apply Drawn0.step)⟩
           ·rw [if_neg c15] at H
            exact absurd H (by simp)
          ·rw [if_neg c13] at H
           have c13b0 : decide ((wrap64 (a1 + x4_3)) < (l0.length : Int)) = false := decide_eq_false c13
           clear c13
           (first | rw [c13b0] | (simp only [i64_w, i32_w]; rw [c13b0]) | skip)
           have H' := Aside0.mk H
           clear H
           go_wp2
           go_meet
           case rel => exact ⟨_, (false), bS, H', ⟨by have := HJ2.out; have := HJ5.out; have := HK3.out; first | omega | exact Nat.le_refl _⟩, by repeat (first | exact Drawn0.refl _ | apply Drawn0.step)⟩
         case rest =>
          clear HC12
          try clear c1
          try clear p1
          try clear q1
          try clear hx1
          try clear c2
          try clear p2
          try clear p3
          try clear c4
          try clear c4b0
          try clear c5
          try clear p6
          try clear c7
          try clear c7b0
          try clear c7b1
          try clear c8
          try clear c8b0
          try clear c9
          try clear c9b0
          try clear p10
          try clear q10
          try clear hx10
          try clear c11
          try clear c13
          try clear c13b0
          try clear c15
          try clear c15b0
          try clear hx101_0
          try clear hx103_0
          try clear p1
          try clear p10
          try clear p101
          try clear p103
          try clear p2
          try clear p3
          try clear p6
          try clear q1
          try clear q10
          try clear q101
          try clear q103
          obtain ⟨kq, x40_11, rfl, HA, HJ11, ⟨mc11, rfl⟩⟩ := hcut
          cases kq with
          | zero => exact absurd HA.out (by simp [name_Scan.j3])
          | succ kj11 =>
           have H := HA.out
           clear HA
           simp only [name_Scan.j3] at H
           by_cases c17 : x40_11 = true
           ·subst c17
            have H1 : (name_Scan.l0 kj11 l0 a1 (wrap64 (x4_3 + 1))) = some (r1, r2) := by rw [if_pos rfl] at H; exact H
            clear H
            have H := H1
            clear H1
            have H' := Aside0.mk H
            clear H
            go_wp2
            go_step3
            (try simp only [Exit.then, Exit.inBlock, Lab.gotos])
            refine Lab.again HIH_0 kj11 ?lm1 ?lm2 ?lm3
            case lm1 => have := HJ2.out; have := HJ5.out; have := HK3.out; have := HJ11.out; omega
            case lm2 => have := HJ2.out; have := HJ5.out; have := HK3.out; have := HJ11.out; omega
            case lm3 =>
             (repeat apply Exists.intro)
             refine ⟨?rel, ?fr⟩
             case fr => (simp only [Act.put, List.setIfInBounds_toArray, List.set_cons_zero, List.set_cons_succ] <;> rfl)
             case rel => exact ⟨(wrap64 (x4_3 + 1)), bS, H', ⟨by have := HJ2.out; have := HJ5.out; have := HK3.out; have := HJ11.out; omega⟩, by repeat (first | exact Drawn0.refl _ | apply Drawn0.step)⟩
           ·replace c17 := Bool.eq_false_iff.mpr c17
            subst c17
            have H1 : (if x4_3 > 255 then (some (0, 12)) else (some (x4_3, 0))) = some (r1, r2) := by rw [if_neg (show ¬ (false = true) by decide)] at H; exact H
            clear H
            have H := H1
            clear H1
            by_cases c18 : x4_3 > 255
            ·rw [if_pos c18] at H
             have c18b0 : decide (255 < x4_3) = true := decide_eq_true c18
             clear c18
             simp only [Option.some.injEq, Prod.mk.injEq] at H
             obtain ⟨rfl, rfl⟩ := H
             go_wp2
             (try simp only [Exit.then, Exit.inBlock, Lab.gotos])
             go_ret2
             exact ⟨by first | rfl | (simp; done) | (simp [*]; done) | (simp [bne]; done) | (unfold wrap64; simp_all; done) | (unfold wrap64; simp_all; omega), by repeat (first | exact Drawn0.refl _ | apply Drawn0.step)⟩
            ·rw [if_neg c18] at H
             have c18b0 : decide (255 < x4_3) = false := decide_eq_false c18
             clear c18
             simp only [Option.some.injEq, Prod.mk.injEq] at H
             obtain ⟨rfl, rfl⟩ := H
             go_wp2
             (try simp only [Exit.then, Exit.inBlock, Lab.gotos])
             go_ret2
             exact ⟨by first | rfl | (simp; done) | (simp [*]; done) | (simp [bne]; done) | (unfold wrap64; simp_all; done) | (unfold wrap64; simp_all; omega), by repeat (first | exact Drawn0.refl _ | apply Drawn0.step)⟩

end Go.Proofs.Ytcebjhbphcoboaa.X
