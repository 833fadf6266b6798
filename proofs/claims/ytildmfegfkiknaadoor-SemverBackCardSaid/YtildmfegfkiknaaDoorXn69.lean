-- Written by a program of this session (wip/xp), out of the translation. Not trusted: Lean checks it.
import Derived.Test.YtildmfegfkiknaaDoorX0
import Derived.Test.YtildmfegfkiknaaDoorXm
-- shrunk
namespace Go.Proofs.YtildmfegfkiknaaDoor.X
open Go.RowKit Go.Proofs.YtildmfegfkiknaaDoorW.PrintWords Go.Proofs.YtildmfegfkiknaaDoorW.PrintLast Go.Proofs.YtildmfegfkiknaaDoorW.PrintMore
attribute [local go_sem] Lab.str_gtr Lab.str_leq Lab.str_geq max2_int min2_int max_two min_two max_three min_three max_four min_four   -- for this text's walks alone
set_option linter.unusedVariables false
set_option linter.unusedSimpArgs false

/-! ### num_Is: function 69 -/
def num_Is.l0 : Nat → ByteArray → Int → Option (Bool)
 | 0, _, _ => none
 | k + 1, x0, x3 => if x3 < (x0.size : Int) then (if 0 ≤ x3 then ((num_digit.f (bt x0 x3)).bind fun t101 => (if t101 = true then (num_Is.l0 k x0 (wrap64 (x3 + 1))) else (if x3 > 0 then (if x3 = (x0.size : Int) then (if x3 = 1 then (some true) else (if 0 < (x0.size : Int) then (some ((bt x0 0) != 48)) else (none))) else (some false)) else (some false)))) else (none)) else (if x3 > 0 then (if x3 = (x0.size : Int) then (if x3 = 1 then (some true) else (if 0 < (x0.size : Int) then (some ((bt x0 0) != 48)) else (none))) else (some false)) else (some false))
def num_Is.f (k : Nat) (a0 : ByteArray) : Option (Bool) := num_Is.l0 k a0 0
theorem num_Is.mono_l : ∀ k, (∀ y0 y1, LeO (num_Is.l0 k y0 y1) (num_Is.l0 (k + 1) y0 y1))
 | 0 => fun _ _ r h => by simp [num_Is.l0] at h
 | k + 1 => by
  have ih0 := num_Is.mono_l k
  ·intro y0 y1
   unfold num_Is.l0
   repeat' first
   | (with_reducible exact ih0 _ _)
   | (with_reducible exact LeO.refl _)
   | (with_reducible exact LeO.none _)
   | (with_reducible refine LeO.ite ?_ ?_)
   | (with_reducible refine LeO.bind ?_ (fun _ => ?_))
   | exact ih0 _ _
   | exact LeO.none _
   | refine LeO.ite ?_ ?_
   | refine LeO.bind ?_ (fun _ => ?_)
theorem num_Is.mono : ∀ a0 k, LeO (num_Is.f k a0) (num_Is.f (k + 1) a0) := by
 intro a0 k
 have ih0 := num_Is.mono_l k
 unfold num_Is.f
 repeat' first
   | (with_reducible exact ih0 _ _)
   | (with_reducible exact LeO.refl _)
   | (with_reducible exact LeO.none _)
   | (with_reducible refine LeO.ite ?_ ?_)
   | (with_reducible refine LeO.bind ?_ (fun _ => ?_))
   | exact ih0 _ _
   | exact LeO.none _
   | refine LeO.ite ?_ ?_
   | refine LeO.bind ?_ (fun _ => ?_)
set_option maxHeartbeats 8000000 in
set_option maxRecDepth 100000 in
theorem num_Is.calls (k : Nat) (a0 : ByteArray) (r : Bool) (w : World) (h : num_Is.f k a0 = some r) :
  Calls Tryd.prog 69 #[.string a0] w fun e w' => e = .returned (.bool r) ∧ Drawn0 w w' := by
 have H : (num_Is.l0 k a0 0) = some r := h
 clear h
 have H' := Aside0.mk H
 clear H
 go_enter Tryd.func69, Tryd.ntmps69
 go_wp2
 refine Lab.wp_scope_lab (Lab.scopeOf Tryd.f69) ?sc k ?_
 case sc => kernel_rfl
 go_wp2
 go_step3
 go_step
 (try go_step)
 refine Lab.wp_at_label (l := 0) (fun a0_ kq a_ w_ => ∃ u3 : Value, ((fun kq v3 w' => ∃ (x3_1 : Int), v3 = .int .i64 x3_1 ∧ Aside0 (num_Is.l0 kq a0 x3_1 = some r) ∧ Aside0 (kq ≤ k) ∧ Drawn0 w w') kq u3 w_) ∧ a_ = (((((((((((((((((((((((((((((((a0_.put (some 2) (Lab.tmp a_ 2)).put (some 3) u3).put (some 4) (Lab.tmp a_ 4)).put (some 5) (Lab.tmp a_ 5)).put (some 6) (Lab.tmp a_ 6)).put (some 7) (Lab.tmp a_ 7)).put (some 8) (Lab.tmp a_ 8)).put (some 9) (Lab.tmp a_ 9)).put (some 10) (Lab.tmp a_ 10)).put (some 11) (Lab.tmp a_ 11)).put (some 12) (Lab.tmp a_ 12)).put (some 13) (Lab.tmp a_ 13)).put (some 14) (Lab.tmp a_ 14)).put (some 15) (Lab.tmp a_ 15)).put (some 16) (Lab.tmp a_ 16)).put (some 17) (Lab.tmp a_ 17)).put (some 18) (Lab.tmp a_ 18)).put (some 19) (Lab.tmp a_ 19)).put (some 20) (Lab.tmp a_ 20)).put (some 21) (Lab.tmp a_ 21)).put (some 22) (Lab.tmp a_ 22)).put (some 23) (Lab.tmp a_ 23)).put (some 24) (Lab.tmp a_ 24)).put (some 25) (Lab.tmp a_ 25)).put (some 26) (Lab.tmp a_ 26)).put (some 27) (Lab.tmp a_ 27)).put (some 28) (Lab.tmp a_ 28)).put (some 29) (Lab.tmp a_ 29)).put (some 30) (Lab.tmp a_ 30)).put (some 31) (Lab.tmp a_ 31)).put (some 32) (Lab.tmp a_ 32))) k ?fl (by first | omega | exact Nat.le_refl _) ?atStart ?round
 case fl => kernel_rfl
 case atStart =>
  (repeat apply Exists.intro)
  refine ⟨?rel, ?fr⟩
  case fr => (simp only [Act.put, List.setIfInBounds_toArray, List.set_cons_zero, List.set_cons_succ] <;> rfl)
  case rel => exact ⟨(0), bS, H', ⟨Nat.le_refl _⟩, by repeat (first | exact Drawn0.refl _ | apply Drawn0.step)⟩
 case round =>
  intro gk a_ wr hle_ hinv HIH_0
  clear hle_
  obtain ⟨u3, hrel, hfr_⟩ := hinv
  generalize hU_ : Lab.tmp a_ = U_ at hfr_
  clear hU_
  subst hfr_
  (try dsimp only at hrel)
  simp only [Act.put, List.setIfInBounds_toArray, List.set_cons_zero, List.set_cons_succ]
  clear H'
  obtain ⟨x3_1, rfl, HA, HK1, ⟨m1, rfl⟩⟩ := hrel
  cases gk with
  | zero => exact absurd HA.out (by simp [num_Is.l0])
  | succ k1 =>
   have H := HA.out
   clear HA
   simp only [num_Is.l0] at H
   by_cases c2 : x3_1 < (a0.size : Int)
   ·rw [if_pos c2] at H
    have c2b0 : decide (x3_1 < (a0.size : Int)) = true := decide_eq_true c2
    clear c2
    by_cases c3 : 0 ≤ x3_1
    ·rw [if_pos c3] at H
     have c3b0 : decide (0 ≤ x3_1) = true := decide_eq_true c3
     clear c3
     replace H := Option.bind_eq_some_iff.mp H
     obtain ⟨t101, A50, H⟩ := H
     replace H : (if t101 = true then (num_Is.l0 k1 a0 (wrap64 (x3_1 + 1))) else (if x3_1 > 0 then (if x3_1 = (a0.size : Int) then (if x3_1 = 1 then (some true) else (if 0 < (a0.size : Int) then (some ((bt a0 0) != 48)) else (none))) else (some false)) else (some false))) = some r := H
     have A5 := Aside0.mk A50
     clear A50
     by_cases c6 : t101 = true
     ·subst c6
      have H1 : (num_Is.l0 k1 a0 (wrap64 (x3_1 + 1))) = some r := by rw [if_pos rfl] at H; exact H
      clear H
      have H := H1
      clear H1
      have H' := Aside0.mk H
      clear H
      have p4 : 0 ≤ (x3_1 : Int) := oD
      have q4 : x3_1 < (a0.size : Int) := oD
      have hx4 := bt_at a0 x3_1
      replace p4 := eq_true p4
      replace q4 := eq_true q4
      go_wp2_with (first | (go_at_call 80; (with_reducible refine (num_digit.calls (bt a0 x3_1) true _ A5.out).mono ?_); rintro e w' ⟨rfl, ⟨nd, rfl⟩⟩))
      go_step3
      (try simp only [Exit.then, Exit.inBlock, Lab.gotos])
      refine Lab.again HIH_0 k1 ?lm1 ?lm2 ?lm3
      case lm1 => have := HK1.out; omega
      case lm2 => have := HK1.out; omega
      case lm3 =>
       (repeat apply Exists.intro)
       refine ⟨?rel, ?fr⟩
       case fr => (simp only [Act.put, List.setIfInBounds_toArray, List.set_cons_zero, List.set_cons_succ] <;> rfl)
       case rel => exact ⟨(wrap64 (x3_1 + 1)), bS, H', ⟨by have := HK1.out; omega⟩, by repeat (first | exact Drawn0.refl _ | apply Drawn0.step)⟩
     ·replace c6 := Bool.eq_false_iff.mpr c6
      subst c6
      have H1 : (if x3_1 > 0 then (if x3_1 = (a0.size : Int) then (if x3_1 = 1 then (some true) else (if 0 < (a0.size : Int) then (some ((bt a0 0) != 48)) else (none))) else (some false)) else (some false)) = some r := by rw [if_neg (show ¬ (false = true) by decide)] at H; exact H
      clear H
      have H := H1
      clear H1
      by_cases c7 : x3_1 > 0
      ·rw [if_pos c7] at H
       have c7b0 : decide (0 < x3_1) = true := decide_eq_true c7
       clear c7
       by_cases c8 : x3_1 = (a0.size : Int)
       ·rw [if_pos c8] at H
        have c8b0 : (x3_1 == (a0.size : Int)) = true := beq_iff_eq.mpr c8
        have c8b1 : (x3_1 != (a0.size : Int)) = false := bne_eq_false_iff_eq.mpr c8
        clear c8
        by_cases c9 : x3_1 = 1
        ·rw [if_pos c9] at H
         have c9b0 : (x3_1 == 1) = true := beq_iff_eq.mpr c9
         have c9b1 : (x3_1 != 1) = false := bne_eq_false_iff_eq.mpr c9
         clear c9
         obtain rfl := Option.some.inj H
         have p4 : 0 ≤ (x3_1 : Int) := oD
         have q4 : x3_1 < (a0.size : Int) := oD
         have hx4 := bt_at a0 x3_1
         replace p4 := eq_true p4
         replace q4 := eq_true q4
         go_wp2_with (first | (go_at_call 80; (with_reducible refine (num_digit.calls (bt a0 x3_1) false _ A5.out).mono ?_); rintro e w' ⟨rfl, ⟨nd, rfl⟩⟩))
         (try simp only [Exit.then, Exit.inBlock, Lab.gotos])
         go_ret
         exact ⟨by first | rfl | (simp; done) | (simp [*]; done) | (simp [bne]; done) | (unfold wrap64; simp_all; done) | (unfold wrap64; simp_all; omega), by repeat (first | exact Drawn0.refl _ | apply Drawn0.step)⟩
        ·rw [if_neg c9] at H
         have c9b0 : (x3_1 == 1) = false := beq_eq_false_iff_ne.mpr c9
         have c9b1 : (x3_1 != 1) = true := bne_iff_ne.mpr c9
         by_cases c10 : 0 < (a0.size : Int)
         ·rw [if_pos c10] at H
          have c10b0 : decide (0 < (a0.size : Int)) = true := decide_eq_true c10
          have c10b1 : decide (0 < a0.size) = true := decide_eq_true (by omega)
          clear c10
          obtain rfl := Option.some.inj H
          have p4 : 0 ≤ (x3_1 : Int) := oD
          have q4 : x3_1 < (a0.size : Int) := oD
          have hx4 := bt_at a0 x3_1
          replace p4 := eq_true p4
          replace q4 := eq_true q4
          go_wp2_with (first | (go_at_call 80; (with_reducible refine (num_digit.calls (bt a0 x3_1) false _ A5.out).mono ?_); rintro e w' ⟨rfl, ⟨nd, rfl⟩⟩; have p11 : 0 ≤ (0 : Int) := (by omega); have q11 : 0 < a0.size := (by have : (0 : Int) < (a0.size : Int) := oD; omega); have hx11 : ∀ h : 0 < a0.size, ((a0[0]'h).toNat : Int) = bt a0 0 := bt_at a0 0; clear p11; have qi11 : (0 < (a0.size : Int)) = True := eq_true oD; replace q11 := eq_true q11))
          (try simp only [Exit.then, Exit.inBlock, Lab.gotos])
          go_ret
          exact ⟨by first | rfl | (simp; done) | (simp [*]; done) | (simp [bne]; done) | (unfold wrap64; simp_all; done) | (unfold wrap64; simp_all; omega), by repeat (first | exact Drawn0.refl _ | apply Drawn0.step)⟩
         ·rw [if_neg c10] at H
          exact absurd H (by simp)
       ·rw [if_neg c8] at H
        have c8b0 : (x3_1 == (a0.size : Int)) = false := beq_eq_false_iff_ne.mpr c8
        have c8b1 : (x3_1 != (a0.size : Int)) = true := bne_iff_ne.mpr c8
        obtain rfl := Option.some.inj H
        have p4 : 0 ≤ (x3_1 : Int) := oD
        have q4 : x3_1 < (a0.size : Int) := oD
        have hx4 := bt_at a0 x3_1
        replace p4 := eq_true p4
        replace q4 := eq_true q4
        go_wp2_with (first | (go_at_call 80; (with_reducible refine (num_digit.calls (bt a0 x3_1) false _ A5.out).mono ?_); rintro e w' ⟨rfl, ⟨nd, rfl⟩⟩))
        (try simp only [Exit.then, Exit.inBlock, Lab.gotos])
        go_ret
        exact ⟨by first | rfl | (simp; done) | (simp [*]; done) | (simp [bne]; done) | (unfold wrap64; simp_all; done) | (unfold wrap64; simp_all; omega), by repeat (first | exact Drawn0.refl _ | apply Drawn0.step)⟩
      ·rw [if_neg c7] at H
       have c7b0 : decide (0 < x3_1) = false := decide_eq_false c7
       clear c7
       obtain rfl := Option.some.inj H
       have p4 : 0 ≤ (x3_1 : Int) := oD
       have q4 : x3_1 < (a0.size : Int) := oD
       have hx4 := bt_at a0 x3_1
       replace p4 := eq_true p4
       replace q4 := eq_true q4
       go_wp2_with (first | (go_at_call 80; (with_reducible refine (num_digit.calls (bt a0 x3_1) false _ A5.out).mono ?_); rintro e w' ⟨rfl, ⟨nd, rfl⟩⟩))
       (try simp only [Exit.then, Exit.inBlock, Lab.gotos])
       go_ret
       exact ⟨by first | rfl | (simp; done) | (simp [*]; done) | (simp [bne]; done) | (unfold wrap64; simp_all; done) | (unfold wrap64; simp_all; omega), by repeat (first | exact Drawn0.refl _ | apply Drawn0.step)⟩
    ·rw [if_neg c3] at H
     exact absurd H (by simp)
   ·rw [if_neg c2] at H
    have c2b0 : decide (x3_1 < (a0.size : Int)) = false := decide_eq_false c2
    clear c2
    by_cases c12 : x3_1 > 0
    ·rw [if_pos c12] at H
     have c12b0 : decide (0 < x3_1) = true := decide_eq_true c12
     clear c12
     by_cases c13 : x3_1 = (a0.size : Int)
     ·rw [if_pos c13] at H
      have c13b0 : (x3_1 == (a0.size : Int)) = true := beq_iff_eq.mpr c13
      have c13b1 : (x3_1 != (a0.size : Int)) = false := bne_eq_false_iff_eq.mpr c13
      clear c13
      by_cases c14 : x3_1 = 1
      ·rw [if_pos c14] at H
       have c14b0 : (x3_1 == 1) = true := beq_iff_eq.mpr c14
       have c14b1 : (x3_1 != 1) = false := bne_eq_false_iff_eq.mpr c14
       clear c14
       obtain rfl := Option.some.inj H
       go_wp2
       (try simp only [Exit.then, Exit.inBlock, Lab.gotos])
       go_ret
       exact ⟨by first | rfl | (simp; done) | (simp [*]; done) | (simp [bne]; done) | (unfold wrap64; simp_all; done) | (unfold wrap64; simp_all; omega), by repeat (first | exact Drawn0.refl _ | apply Drawn0.step)⟩
      ·rw [if_neg c14] at H
       have c14b0 : (x3_1 == 1) = false := beq_eq_false_iff_ne.mpr c14
       have c14b1 : (x3_1 != 1) = true := bne_iff_ne.mpr c14
       by_cases c15 : 0 < (a0.size : Int)
       ·rw [if_pos c15] at H
        have c15b0 : decide (0 < (a0.size : Int)) = true := decide_eq_true c15
        have c15b1 : decide (0 < a0.size) = true := decide_eq_true (by omega)
        clear c15
        obtain rfl := Option.some.inj H
        have p16 : 0 ≤ (0 : Int) := (by omega)
        have q16 : 0 < a0.size := (by have : (0 : Int) < (a0.size : Int) := oD; omega)
        have hx16 : ∀ h : 0 < a0.size, ((a0[0]'h).toNat : Int) = bt a0 0 := bt_at a0 0
        clear p16
        have qi16 : (0 < (a0.size : Int)) = True := eq_true oD
        replace q16 := eq_true q16
        go_wp2
        (try simp only [Exit.then, Exit.inBlock, Lab.gotos])
        go_ret
        exact ⟨by first | rfl | (simp; done) | (simp [*]; done) | (simp [bne]; done) | (unfold wrap64; simp_all; done) | (unfold wrap64; simp_all; omega), by repeat (first | exact Drawn0.refl _ | apply Drawn0.step)⟩
       ·rw [if_neg c15] at H
        exact absurd H (by simp)
     ·rw [if_neg c13] at H
      have c13b0 : (x3_1 == (a0.size : Int)) = false := beq_eq_false_iff_ne.mpr c13
      have c13b1 : (x3_1 != (a0.size : Int)) = true := bne_iff_ne.mpr c13
      obtain rfl := Option.some.inj H
      go_wp2
      (try simp only [Exit.then, Exit.inBlock, Lab.gotos])
      go_ret
      exact ⟨by first | rfl | (simp; done) | (simp [*]; done) | (simp [bne]; done) | (unfold wrap64; simp_all; done) | (unfold wrap64; simp_all; omega), by repeat (first | exact Drawn0.refl _ | apply Drawn0.step)⟩
    ·rw [if_neg c12] at H
     have c12b0 : decide (0 < x3_1) = false := decide_eq_false c12
     clear c12
     obtain rfl := Option.some.inj H
     go_wp2
     (try simp only [Exit.then, Exit.inBlock, Lab.gotos])
     go_ret
     exact ⟨by first | rfl | (simp; done) | (simp [*]; done) | (simp [bne]; done) | (unfold wrap64; simp_all; done) | (unfold wrap64; simp_all; omega), by repeat (first | exact Drawn0.refl _ | apply Drawn0.step)⟩

end Go.Proofs.YtildmfegfkiknaaDoor.X
