-- Written by a program of this session (wip/xp), out of the translation. Not trusted: Lean checks it.
import Derived.Test.YtildmfegfkiknaaDoorX0
import Derived.Test.YtildmfegfkiknaaDoorXm
import Derived.Test.YtildmfegfkiknaaDoorXn69
-- shrunk
namespace Go.Proofs.YtildmfegfkiknaaDoor.X
open Go.RowKit Go.Proofs.YtildmfegfkiknaaDoorW.PrintWords Go.Proofs.YtildmfegfkiknaaDoorW.PrintLast Go.Proofs.YtildmfegfkiknaaDoorW.PrintMore
attribute [local go_sem] Lab.str_gtr Lab.str_leq Lab.str_geq max2_int min2_int max_two min_two max_three min_three max_four min_four   -- for this text's walks alone
set_option linter.unusedVariables false
set_option linter.unusedSimpArgs false

/-! ### ident_check: function 48 -/
def ident_check.j0 : Nat → ByteArray → Bool → Bool → Option (Int)
 | 0, _, _, _ => none
 | k + 1, x0, x2, x10 => if x10 = true then (some 4) else (if x2 = true then ((ident_numeric.f x0).bind fun t101 => (if t101 = true then ((num_Is.f k x0).bind fun t102 => (if t102 = true then (some 0) else (some 3))) else (some 0))) else (some 0))
def ident_check.f (k : Nat) (a0 : ByteArray) (a1 : Int) (a2 : Bool) : Option (Int) := if a0.toList = ([] : List UInt8) then (some 5) else (if (a0.size : Int) > 255 then (ident_check.j0 k a0 a2 true) else (ident_check.j0 k a0 a2 (decide (a1 ≥ 16))))
theorem ident_check.mono_l : ∀ k, (∀ y0 y1 y2, LeO (ident_check.j0 k y0 y1 y2) (ident_check.j0 (k + 1) y0 y1 y2))
 | 0 => fun _ _ _ r h => by simp [ident_check.j0] at h
 | k + 1 => by
  have ih0 := ident_check.mono_l k
  ·intro y0 y1 y2
   unfold ident_check.j0
   repeat' first
   | (with_reducible exact ih0 _ _ _)
   | (with_reducible exact num_Is.mono _ _)
   | (with_reducible exact LeO.refl _)
   | (with_reducible exact LeO.none _)
   | (with_reducible refine LeO.ite ?_ ?_)
   | (with_reducible refine LeO.bind ?_ (fun _ => ?_))
   | exact ih0 _ _ _
   | exact num_Is.mono _ _
   | exact LeO.none _
   | refine LeO.ite ?_ ?_
   | refine LeO.bind ?_ (fun _ => ?_)
theorem ident_check.mono : ∀ a0 a1 a2 k, LeO (ident_check.f k a0 a1 a2) (ident_check.f (k + 1) a0 a1 a2) := by
 intro a0 a1 a2 k
 have ih0 := ident_check.mono_l k
 unfold ident_check.f
 repeat' first
   | (with_reducible exact ih0 _ _ _)
   | (with_reducible exact num_Is.mono _ _)
   | (with_reducible exact LeO.refl _)
   | (with_reducible exact LeO.none _)
   | (with_reducible refine LeO.ite ?_ ?_)
   | (with_reducible refine LeO.bind ?_ (fun _ => ?_))
   | exact ih0 _ _ _
   | exact num_Is.mono _ _
   | exact LeO.none _
   | refine LeO.ite ?_ ?_
   | refine LeO.bind ?_ (fun _ => ?_)
set_option maxHeartbeats 8000000 in
set_option maxRecDepth 100000 in
theorem ident_check.calls (k : Nat) (a0 : ByteArray) (a1 : Int) (a2 : Bool) (r : Int) (w : World) (h : ident_check.f k a0 a1 a2 = some r) :
  Calls Tryd.prog 48 #[.string a0, .int .i64 a1, .bool a2] w fun e w' => e = .returned (.int .i64 r) ∧ Below w.heap.size w w' := by
 have HB := Aside0.mk (Below.refl w.heap.size w)
 have H : (if a0.toList = ([] : List UInt8) then (some 5) else (if (a0.size : Int) > 255 then (ident_check.j0 k a0 a2 true) else (ident_check.j0 k a0 a2 (decide (a1 ≥ 16))))) = some r := h
 clear h
 by_cases c4 : a0.toList = ([] : List UInt8)
 ·rw [if_pos c4] at H
  have c4b0 : (a0.toList == ([] : List UInt8)) = true := beq_iff_eq.mpr c4
  have c4b1 : (a0.toList != ([] : List UInt8)) = false := bne_eq_false_iff_eq.mpr c4
  clear c4
  obtain rfl := Option.some.inj H
  go_enter Tryd.func48, Tryd.ntmps48
  go_wp2
  go_ret
  exact ⟨by first | rfl | (simp [errW_none, errW_some] <;> rfl) | (simp [*, errW_none, errW_some] <;> rfl), bB⟩
 ·rw [if_neg c4] at H
  have c4b0 : (a0.toList == ([] : List UInt8)) = false := beq_eq_false_iff_ne.mpr c4
  have c4b1 : (a0.toList != ([] : List UInt8)) = true := bne_iff_ne.mpr c4
  have HC5 := Aside0.mk H
  clear H
  go_enter Tryd.func48, Tryd.ntmps48
  go_upto_region 3 with (fail)
  go_cut [10] (fun v10 wc => ∃ (kq : Nat) (x10_4 : Bool), v10 = .bool x10_4 ∧ Aside0 (ident_check.j0 kq a0 a2 x10_4 = some r) ∧ Aside0 (kq ≤ k) ∧ Aside0 (Below w.heap.size w wc))
  case first =>
   have H := HC5.out
   clear HC5
   by_cases c6 : (a0.size : Int) > 255
   ·rw [if_pos c6] at H
    have c6b0 : decide (255 < (a0.size : Int)) = true := decide_eq_true c6
    have c6b1 : decide (255 < a0.size) = true := decide_eq_true (by omega)
    clear c6
    (first | rw [c6b0] | (simp only [i64_w, i32_w]; rw [c6b0]) | skip)
    have H' := Aside0.mk H
    clear H
    go_wp2
    go_meet
    case rel => exact ⟨_, (true), bS, H', ⟨by first | omega | exact Nat.le_refl _⟩, ⟨bB⟩⟩
   ·rw [if_neg c6] at H
    have c6b0 : decide (255 < (a0.size : Int)) = false := decide_eq_false c6
    have c6b1 : decide (255 < a0.size) = false := decide_eq_false (by omega)
    clear c6
    (first | rw [c6b0] | (simp only [i64_w, i32_w]; rw [c6b0]) | skip)
    have H' := Aside0.mk H
    clear H
    go_wp2
    go_meet
    case rel => exact ⟨_, (decide (a1 ≥ 16)), bS, H', ⟨by first | omega | exact Nat.le_refl _⟩, ⟨bB⟩⟩
  case rest =>
   clear HC5
   try clear p2
   try clear c4
   try clear c4b0
   try clear c4b1
   try clear c6
   try clear c6b0
   try clear c6b1
   try clear p6
   obtain ⟨kq, x10_4, rfl, HA, HJ4, HB⟩ := hcut
   cases kq with
   | zero => exact absurd HA.out (by simp [ident_check.j0])
   | succ kj4 =>
    have H := HA.out
    clear HA
    simp only [ident_check.j0] at H
    by_cases c7 : x10_4 = true
    ·subst c7
     have H1 : (some 4) = some r := by rw [if_pos rfl] at H; exact H
     clear H
     have H := H1
     clear H1
     obtain rfl := Option.some.inj H
     go_wp2
     go_ret
     exact ⟨by first | rfl | (simp [errW_none, errW_some] <;> rfl) | (simp [*, errW_none, errW_some] <;> rfl), bB⟩
    ·replace c7 := Bool.eq_false_iff.mpr c7
     subst c7
     have H1 : (if a2 = true then ((ident_numeric.f a0).bind fun t101 => (if t101 = true then ((num_Is.f kj4 a0).bind fun t102 => (if t102 = true then (some 0) else (some 3))) else (some 0))) else (some 0)) = some r := by rw [if_neg (show ¬ (false = true) by decide)] at H; exact H
     clear H
     have H := H1
     clear H1
     by_cases c8 : a2 = true
     ·subst c8
      have H1 : ((ident_numeric.f a0).bind fun t101 => (if t101 = true then ((num_Is.f kj4 a0).bind fun t102 => (if t102 = true then (some 0) else (some 3))) else (some 0))) = some r := by rw [if_pos rfl] at H; exact H
      clear H
      have H := H1
      clear H1
      replace H := Option.bind_eq_some_iff.mp H
      obtain ⟨t101, A90, H⟩ := H
      replace H : (if t101 = true then ((num_Is.f kj4 a0).bind fun t102 => (if t102 = true then (some 0) else (some 3))) else (some 0)) = some r := H
      have A9 := Aside0.mk A90
      clear A90
      by_cases c10 : t101 = true
      ·subst c10
       have H1 : ((num_Is.f kj4 a0).bind fun t102 => (if t102 = true then (some 0) else (some 3))) = some r := by rw [if_pos rfl] at H; exact H
       clear H
       have H := H1
       clear H1
       replace H := Option.bind_eq_some_iff.mp H
       obtain ⟨t102, A110, H⟩ := H
       replace H : (if t102 = true then (some 0) else (some 3)) = some r := H
       have A11 := Aside0.mk A110
       clear A110
       by_cases c12 : t102 = true
       ·subst c12
        have H1 : (some 0) = some r := by rw [if_pos rfl] at H; exact H
        clear H
        have H := H1
        clear H1
        obtain rfl := Option.some.inj H
        go_wp2_with (first | (go_at_call 51; (with_reducible refine (ident_numeric.calls a0 true _ A9.out).mono ?_); rintro e w13 ⟨rfl, hb⟩; replace HB := aB HB hb; (try clear hb); (try clear hb2); (try clear hk); (try clear hi)) | (go_at_call 69; (with_reducible refine (num_Is.calls kj4 a0 true _ A11.out).mono ?_); rintro e w' ⟨rfl, ⟨nd, rfl⟩⟩))
        go_ret
        exact ⟨by first | rfl | (simp [errW_none, errW_some] <;> rfl) | (simp [*, errW_none, errW_some] <;> rfl), bB⟩
       ·replace c12 := Bool.eq_false_iff.mpr c12
        subst c12
        have H1 : (some 3) = some r := by rw [if_neg (show ¬ (false = true) by decide)] at H; exact H
        clear H
        have H := H1
        clear H1
        obtain rfl := Option.some.inj H
        go_wp2_with (first | (go_at_call 51; (with_reducible refine (ident_numeric.calls a0 true _ A9.out).mono ?_); rintro e w14 ⟨rfl, hb⟩; replace HB := aB HB hb; (try clear hb); (try clear hb2); (try clear hk); (try clear hi)) | (go_at_call 69; (with_reducible refine (num_Is.calls kj4 a0 false _ A11.out).mono ?_); rintro e w' ⟨rfl, ⟨nd, rfl⟩⟩))
        go_ret
        exact ⟨by first | rfl | (simp [errW_none, errW_some] <;> rfl) | (simp [*, errW_none, errW_some] <;> rfl), bB⟩
      ·replace c10 := Bool.eq_false_iff.mpr c10
       subst c10
       have H1 : (some 0) = some r := by rw [if_neg (show ¬ (false = true) by decide)] at H; exact H
       clear H
       have H := H1
       clear H1
       obtain rfl := Option.some.inj H
       go_wp2_with (first | (go_at_call 51; (with_reducible refine (ident_numeric.calls a0 false _ A9.out).mono ?_); rintro e w15 ⟨rfl, hb⟩; replace HB := aB HB hb; (try clear hb); (try clear hb2); (try clear hk); (try clear hi)))
       go_ret
       exact ⟨by first | rfl | (simp [errW_none, errW_some] <;> rfl) | (simp [*, errW_none, errW_some] <;> rfl), bB⟩
     ·replace c8 := Bool.eq_false_iff.mpr c8
      subst c8
      have H1 : (some 0) = some r := by rw [if_neg (show ¬ (false = true) by decide)] at H; exact H
      clear H
      have H := H1
      clear H1
      obtain rfl := Option.some.inj H
      go_wp2
      go_ret
      exact ⟨by first | rfl | (simp [errW_none, errW_some] <;> rfl) | (simp [*, errW_none, errW_some] <;> rfl), bB⟩

end Go.Proofs.YtildmfegfkiknaaDoor.X
