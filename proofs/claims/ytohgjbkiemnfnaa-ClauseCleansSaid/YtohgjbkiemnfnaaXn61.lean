-- Written by a program of this session (wip/xp), out of the translation. Not trusted: Lean checks it.
import Derived.Test.YtohgjbkiemnfnaaX0
import Derived.Test.YtohgjbkiemnfnaaXn66
import Derived.Test.YtohgjbkiemnfnaaXn33
import Derived.Test.YtohgjbkiemnfnaaXn86
import Derived.Test.YtohgjbkiemnfnaaXn87
-- shrunk
namespace Go.Proofs.Ytohgjbkiemnfnaa.X
open Go.RowKit Go.Proofs.YtohgjbkiemnfnaaW.PrintWords Go.Proofs.YtohgjbkiemnfnaaW.PrintLast Go.Proofs.YtohgjbkiemnfnaaW.PrintMore
attribute [local go_sem] Lab.str_gtr Lab.str_leq Lab.str_geq max2_int min2_int max_two min_two max_three min_three max_four min_four   -- for this text's walks alone
set_option linter.unusedVariables false
set_option linter.unusedSimpArgs false

/-! ### clause_Resolve: function 61 -/
mutual
def clause_Resolve.j0 : Nat → List Int → List Int → Int → List Int → Bool → Option (List Int × Bool)
 | 0, _, _, _, _, _ => none
 | k + 1, x0, x1, x2, x6, x40 => if x40 = true then (some (([] : List Int), false)) else ((slices_Concat_int_int.f k (([x0, x1] : List (List Int)))).bind fun t108 => (clause_Resolve.l0 k x2 x6 t108 (t108.length : Int) 0))
def clause_Resolve.l0 : Nat → Int → List Int → List Int → Int → Int → Option (List Int × Bool)
 | 0, _, _, _, _, _ => none
 | k + 1, x2, x6, x44, x45, x46 => if x46 < x45 then (if 0 ≤ x46 then (if x46 < (x44.length : Int) then ((clause_abs.f (rd x44 x46)).bind fun t112 => (if t112 = x2 then (clause_Resolve.l0 k x2 x6 x44 x45 (wrap64 (x46 + 1))) else (if x6.length < 17592186044416 then (clause_Resolve.l0 k x2 (x6 ++ [rd x44 x46]) x44 x45 (wrap64 (x46 + 1))) else (none)))) else (none)) else (none)) else ((clause_Clean.f k x6).bind fun bt116 => (some (bt116.1, !bt116.2)))
end
def clause_Resolve.f (k : Nat) (l0 : List Int) (l1 : List Int) (a2 : Int) : Option (List Int × Bool) := if a2 < 1 then (clause_Resolve.j0 k l0 l1 a2 ([] : List Int) true) else (if a2 > 16777216 then (clause_Resolve.j0 k l0 l1 a2 ([] : List Int) true) else ((slices_Contains_int_int.f k l0 a2).bind fun t101 => (if t101 = true then ((slices_Contains_int_int.f k l0 (wrap64 (-a2))).bind fun t102 => (if t102 = true then (clause_Resolve.j0 k l0 l1 a2 ([] : List Int) true) else ((slices_Contains_int_int.f k l1 (wrap64 (-a2))).bind fun t103 => (if t103 = true then ((slices_Contains_int_int.f k l1 a2).bind fun t104 => (clause_Resolve.j0 k l0 l1 a2 ([] : List Int) t104)) else (clause_Resolve.j0 k l0 l1 a2 ([] : List Int) true))))) else (clause_Resolve.j0 k l0 l1 a2 ([] : List Int) true))))
theorem clause_Resolve.mono_l : ∀ k, (∀ y0 y1 y2 y3 y4, LeO (clause_Resolve.j0 k y0 y1 y2 y3 y4) (clause_Resolve.j0 (k + 1) y0 y1 y2 y3 y4)) ∧ (∀ y0 y1 y2 y3 y4, LeO (clause_Resolve.l0 k y0 y1 y2 y3 y4) (clause_Resolve.l0 (k + 1) y0 y1 y2 y3 y4))
 | 0 => ⟨fun _ _ _ _ _ r h => by simp [clause_Resolve.j0] at h, fun _ _ _ _ _ r h => by simp [clause_Resolve.l0] at h⟩
 | k + 1 => by
  obtain ⟨ih0, ih1⟩ := clause_Resolve.mono_l k
  refine ⟨?_, ?_⟩
  ·intro y0 y1 y2 y3 y4
   unfold clause_Resolve.j0
   repeat' first
   | (with_reducible exact ih0 _ _ _ _ _)
   | (with_reducible exact ih1 _ _ _ _ _)
   | (with_reducible exact clause_Clean.mono _ _)
   | (with_reducible exact slices_Concat_int_int.mono _ _)
   | (with_reducible exact slices_Contains_int_int.mono _ _ _)
   | (with_reducible exact LeO.refl _)
   | (with_reducible exact LeO.none _)
   | (with_reducible refine LeO.ite ?_ ?_)
   | (with_reducible refine LeO.bind ?_ (fun _ => ?_))
   | exact ih0 _ _ _ _ _
   | exact ih1 _ _ _ _ _
   | exact clause_Clean.mono _ _
   | exact slices_Concat_int_int.mono _ _
   | exact slices_Contains_int_int.mono _ _ _
   | exact LeO.none _
   | refine LeO.ite ?_ ?_
   | refine LeO.bind ?_ (fun _ => ?_)
  ·intro y0 y1 y2 y3 y4
   unfold clause_Resolve.l0
   repeat' first
   | (with_reducible exact ih0 _ _ _ _ _)
   | (with_reducible exact ih1 _ _ _ _ _)
   | (with_reducible exact clause_Clean.mono _ _)
   | (with_reducible exact slices_Concat_int_int.mono _ _)
   | (with_reducible exact slices_Contains_int_int.mono _ _ _)
   | (with_reducible exact LeO.refl _)
   | (with_reducible exact LeO.none _)
   | (with_reducible refine LeO.ite ?_ ?_)
   | (with_reducible refine LeO.bind ?_ (fun _ => ?_))
   | exact ih0 _ _ _ _ _
   | exact ih1 _ _ _ _ _
   | exact clause_Clean.mono _ _
   | exact slices_Concat_int_int.mono _ _
   | exact slices_Contains_int_int.mono _ _ _
   | exact LeO.none _
   | refine LeO.ite ?_ ?_
   | refine LeO.bind ?_ (fun _ => ?_)
theorem clause_Resolve.mono : ∀ a0 a1 a2 k, LeO (clause_Resolve.f k a0 a1 a2) (clause_Resolve.f (k + 1) a0 a1 a2) := by
 intro a0 a1 a2 k
 obtain ⟨ih0, ih1⟩ := clause_Resolve.mono_l k
 unfold clause_Resolve.f
 repeat' first
   | (with_reducible exact ih0 _ _ _ _ _)
   | (with_reducible exact ih1 _ _ _ _ _)
   | (with_reducible exact clause_Clean.mono _ _)
   | (with_reducible exact slices_Concat_int_int.mono _ _)
   | (with_reducible exact slices_Contains_int_int.mono _ _ _)
   | (with_reducible exact LeO.refl _)
   | (with_reducible exact LeO.none _)
   | (with_reducible refine LeO.ite ?_ ?_)
   | (with_reducible refine LeO.bind ?_ (fun _ => ?_))
   | exact ih0 _ _ _ _ _
   | exact ih1 _ _ _ _ _
   | exact clause_Clean.mono _ _
   | exact slices_Concat_int_int.mono _ _
   | exact slices_Contains_int_int.mono _ _ _
   | exact LeO.none _
   | refine LeO.ite ?_ ?_
   | refine LeO.bind ?_ (fun _ => ?_)
set_option maxHeartbeats 8000000 in
set_option maxRecDepth 100000 in
theorem clause_Resolve.calls (k : Nat) (P0_ : Nat → Prop) (A0 : Option Addr) (c0 : Nat) (l0 : List Int) (P1_ : Nat → Prop) (A1 : Option Addr) (c1 : Nat) (l1 : List Int) (a2 : Int) (r1 : List Int) (r2 : Bool) (w : World) (hs0 : Kd.V (Kd.int .i64) 3 w w.heap.size (fun k_ => P0_ k_) (.slice A0 l0.length c0) l0) (hs1 : Kd.V (Kd.int .i64) 3 w w.heap.size (fun k_ => P1_ k_) (.slice A1 l1.length c1) l1) (h : clause_Resolve.f k l0 l1 a2 = some (r1, r2)) :
  Calls Try.prog 61 #[.slice A0 l0.length c0, .slice A1 l1.length c1, .int .i64 a2] w fun e w' => ∃ v0_ : Value, e = .returned (.tuple #[v0_, .bool r2]) ∧ Kd.R (Kd.int .i64) 3 w' w.heap.size (fun k_ => (w.heap.size ≤ k_)) v0_ r1 ∧ Below w.heap.size w w' := by
 have HO0 := Aside0.mk (show Kd.V (Kd.int .i64) 3 w w.heap.size (fun k_ => ((P0_ k_ ∨ P1_ k_) ∨ w.heap.size ≤ k_)) (.slice A0 l0.length c0) l0 from Kd.V_mono hs0 (fun k_ hk => .inl (.inl hk)))
 have HO1 := Aside0.mk (show Kd.V (Kd.int .i64) 3 w w.heap.size (fun k_ => ((P0_ k_ ∨ P1_ k_) ∨ w.heap.size ≤ k_)) (.slice A1 l1.length c1) l1 from Kd.V_mono hs1 (fun k_ hk => .inl (.inr hk)))
 have HB := Aside0.mk (Below.refl w.heap.size w)
 have H : (if a2 < 1 then (clause_Resolve.j0 k l0 l1 a2 ([] : List Int) true) else (if a2 > 16777216 then (clause_Resolve.j0 k l0 l1 a2 ([] : List Int) true) else ((slices_Contains_int_int.f k l0 a2).bind fun t101 => (if t101 = true then ((slices_Contains_int_int.f k l0 (wrap64 (-a2))).bind fun t102 => (if t102 = true then (clause_Resolve.j0 k l0 l1 a2 ([] : List Int) true) else ((slices_Contains_int_int.f k l1 (wrap64 (-a2))).bind fun t103 => (if t103 = true then ((slices_Contains_int_int.f k l1 a2).bind fun t104 => (clause_Resolve.j0 k l0 l1 a2 ([] : List Int) t104)) else (clause_Resolve.j0 k l0 l1 a2 ([] : List Int) true))))) else (clause_Resolve.j0 k l0 l1 a2 ([] : List Int) true))))) = some (r1, r2) := h
 clear h
 have HC4 := Aside0.mk H
 clear H
 go_enter Try.func61, Try.ntmps61
 go_upto_region 1 with (fail)
 go_cut [40] (fun v40 wc => ∃ (kq : Nat) (x40_3 : Bool), v40 = .bool x40_3 ∧ Aside0 (clause_Resolve.j0 kq l0 l1 a2 ([] : List Int) x40_3 = some (r1, r2)) ∧ Aside0 (kq ≤ k) ∧ Aside0 (Kd.V (Kd.int .i64) 3 wc w.heap.size (fun k_ => ((P0_ k_ ∨ P1_ k_) ∨ w.heap.size ≤ k_) ∧ some k_ ≠ ((.slice none 0 0) : Value).ownBlock) (.slice A0 l0.length c0) l0) ∧ Aside0 (Kd.V (Kd.int .i64) 3 wc w.heap.size (fun k_ => ((P0_ k_ ∨ P1_ k_) ∨ w.heap.size ≤ k_) ∧ some k_ ≠ ((.slice none 0 0) : Value).ownBlock) (.slice A1 l1.length c1) l1) ∧ Aside0 (Kd.R (Kd.int .i64) 3 wc w.heap.size (fun k_ => (w.heap.size ≤ k_)) (.slice none 0 0) ([] : List Int)) ∧ Aside0 (Below w.heap.size w wc))
 case first =>
  have H := HC4.out
  clear HC4
  by_cases c5 : a2 < 1
  ·rw [if_pos c5] at H
   have c5b0 : decide (a2 < 1) = true := decide_eq_true c5
   clear c5
   (first | rw [c5b0] | (simp only [i64_w, i32_w]; rw [c5b0]) | skip)
   have H' := Aside0.mk H
   clear H
   go_wp2
   go_meet
   case rel => exact ⟨_, (true), bS, H', ⟨by first | omega | exact Nat.le_refl _⟩, ⟨by (with_reducible repeat (first | apply Kd.V_alloc | apply Kd.V_drewN | apply Kd.V_drew)); exact Kd.V_mono HO0.out (fun _ hk => ⟨hk, (by simp [Value.ownBlock])⟩)⟩, ⟨by (with_reducible repeat (first | apply Kd.V_alloc | apply Kd.V_drewN | apply Kd.V_drew)); exact Kd.V_mono HO1.out (fun _ hk => ⟨hk, (by simp [Value.ownBlock])⟩)⟩, ⟨by first | exact Kd.R_nil _ _ _ _ _ | exact Kd.N_nil _ _ _ _ _ | exact Kd.V_nil _ _ _ _ _ | exact Kd.Q_nil _ _ _ _ _ | exact Kd.S_nil _ _ _ _ _⟩, ⟨bB⟩⟩
  ·rw [if_neg c5] at H
   have c5b0 : decide (a2 < 1) = false := decide_eq_false c5
   clear c5
   (first | rw [c5b0] | (simp only [i64_w, i32_w]; rw [c5b0]) | skip)
   by_cases c6 : a2 > 16777216
   ·rw [if_pos c6] at H
    have c6b0 : decide (16777216 < a2) = true := decide_eq_true c6
    clear c6
    have H' := Aside0.mk H
    clear H
    go_wp2
    go_meet
    case rel => exact ⟨_, (true), bS, H', ⟨by first | omega | exact Nat.le_refl _⟩, ⟨by (with_reducible repeat (first | apply Kd.V_alloc | apply Kd.V_drewN | apply Kd.V_drew)); exact Kd.V_mono HO0.out (fun _ hk => ⟨hk, (by simp [Value.ownBlock])⟩)⟩, ⟨by (with_reducible repeat (first | apply Kd.V_alloc | apply Kd.V_drewN | apply Kd.V_drew)); exact Kd.V_mono HO1.out (fun _ hk => ⟨hk, (by simp [Value.ownBlock])⟩)⟩, ⟨by first | exact Kd.R_nil _ _ _ _ _ | exact Kd.N_nil _ _ _ _ _ | exact Kd.V_nil _ _ _ _ _ | exact Kd.Q_nil _ _ _ _ _ | exact Kd.S_nil _ _ _ _ _⟩, ⟨bB⟩⟩
   ·rw [if_neg c6] at H
    have c6b0 : decide (16777216 < a2) = false := decide_eq_false c6
    clear c6
    replace H := Option.bind_eq_some_iff.mp H
    obtain ⟨t101, A70, H⟩ := H
    replace H : (if t101 = true then ((slices_Contains_int_int.f k l0 (wrap64 (-a2))).bind fun t102 => (if t102 = true then (clause_Resolve.j0 k l0 l1 a2 ([] : List Int) true) else ((slices_Contains_int_int.f k l1 (wrap64 (-a2))).bind fun t103 => (if t103 = true then ((slices_Contains_int_int.f k l1 a2).bind fun t104 => (clause_Resolve.j0 k l0 l1 a2 ([] : List Int) t104)) else (clause_Resolve.j0 k l0 l1 a2 ([] : List Int) true))))) else (clause_Resolve.j0 k l0 l1 a2 ([] : List Int) true)) = some (r1, r2) := H
    have A7 := Aside0.mk A70
    clear A70
    by_cases c8 : t101 = true
    ·subst c8
     have H1 : ((slices_Contains_int_int.f k l0 (wrap64 (-a2))).bind fun t102 => (if t102 = true then (clause_Resolve.j0 k l0 l1 a2 ([] : List Int) true) else ((slices_Contains_int_int.f k l1 (wrap64 (-a2))).bind fun t103 => (if t103 = true then ((slices_Contains_int_int.f k l1 a2).bind fun t104 => (clause_Resolve.j0 k l0 l1 a2 ([] : List Int) t104)) else (clause_Resolve.j0 k l0 l1 a2 ([] : List Int) true))))) = some (r1, r2) := by rw [if_pos rfl] at H; exact H
     clear H
     have H := H1
     clear H1
     replace H := Option.bind_eq_some_iff.mp H
     obtain ⟨t102, A90, H⟩ := H
     replace H : (if t102 = true then (clause_Resolve.j0 k l0 l1 a2 ([] : List Int) true) else ((slices_Contains_int_int.f k l1 (wrap64 (-a2))).bind fun t103 => (if t103 = true then ((slices_Contains_int_int.f k l1 a2).bind fun t104 => (clause_Resolve.j0 k l0 l1 a2 ([] : List Int) t104)) else (clause_Resolve.j0 k l0 l1 a2 ([] : List Int) true)))) = some (r1, r2) := H
     have A9 := Aside0.mk A90
     clear A90
     by_cases c10 : t102 = true
     ·subst c10
      have H1 : (clause_Resolve.j0 k l0 l1 a2 ([] : List Int) true) = some (r1, r2) := by rw [if_pos rfl] at H; exact H
      clear H
      have H := H1
      clear H1
      have H' := Aside0.mk H
      clear H
      go_wp2_with (first | (go_at_call 86; (with_reducible refine (slices_Contains_int_int.calls k _ _ l0 a2 true _ ?side1 ?side2 A7.out).mono ?_); (case side1 => exact sW (Kd.V_reads' HO0.out).2.2); (case side2 => exact (Kd.V_reads' HO0.out).2.1); rintro e w' ⟨rfl, ⟨nd, rfl⟩⟩) | (go_at_call 86; (with_reducible refine (slices_Contains_int_int.calls k _ _ l0 (wrap64 (-a2)) true _ ?side1 ?side2 A9.out).mono ?_); (case side1 => exact sW (Kd.V_reads' HO0.out).2.2); (case side2 => exact (Kd.V_reads' HO0.out).2.1); rintro e w' ⟨rfl, ⟨nd, rfl⟩⟩))
      go_meet
      case rel => exact ⟨_, (true), bS, H', ⟨by first | omega | exact Nat.le_refl _⟩, ⟨by (with_reducible repeat (first | apply Kd.V_alloc | apply Kd.V_drewN | apply Kd.V_drew)); exact Kd.V_mono HO0.out (fun _ hk => ⟨hk, (by simp [Value.ownBlock])⟩)⟩, ⟨by (with_reducible repeat (first | apply Kd.V_alloc | apply Kd.V_drewN | apply Kd.V_drew)); exact Kd.V_mono HO1.out (fun _ hk => ⟨hk, (by simp [Value.ownBlock])⟩)⟩, ⟨by first | exact Kd.R_nil _ _ _ _ _ | exact Kd.N_nil _ _ _ _ _ | exact Kd.V_nil _ _ _ _ _ | exact Kd.Q_nil _ _ _ _ _ | exact Kd.S_nil _ _ _ _ _⟩, ⟨bB⟩⟩
     ·replace c10 := Bool.eq_false_iff.mpr c10
      subst c10
      have H1 : ((slices_Contains_int_int.f k l1 (wrap64 (-a2))).bind fun t103 => (if t103 = true then ((slices_Contains_int_int.f k l1 a2).bind fun t104 => (clause_Resolve.j0 k l0 l1 a2 ([] : List Int) t104)) else (clause_Resolve.j0 k l0 l1 a2 ([] : List Int) true))) = some (r1, r2) := by rw [if_neg (show ¬ (false = true) by decide)] at H; exact H
      clear H
      have H := H1
      clear H1
      replace H := Option.bind_eq_some_iff.mp H
      obtain ⟨t103, A110, H⟩ := H
      replace H : (if t103 = true then ((slices_Contains_int_int.f k l1 a2).bind fun t104 => (clause_Resolve.j0 k l0 l1 a2 ([] : List Int) t104)) else (clause_Resolve.j0 k l0 l1 a2 ([] : List Int) true)) = some (r1, r2) := H
      have A11 := Aside0.mk A110
      clear A110
      by_cases c12 : t103 = true
      ·subst c12
       have H1 : ((slices_Contains_int_int.f k l1 a2).bind fun t104 => (clause_Resolve.j0 k l0 l1 a2 ([] : List Int) t104)) = some (r1, r2) := by rw [if_pos rfl] at H; exact H
       clear H
       have H := H1
       clear H1
       replace H := Option.bind_eq_some_iff.mp H
       obtain ⟨t104, A130, H⟩ := H
       replace H : (clause_Resolve.j0 k l0 l1 a2 ([] : List Int) t104) = some (r1, r2) := H
       have A13 := Aside0.mk A130
       clear A130
       have H' := Aside0.mk H
       clear H
       go_wp2_with (first | (go_at_call 86; (with_reducible refine (slices_Contains_int_int.calls k _ _ l0 a2 true _ ?side1 ?side2 A7.out).mono ?_); (case side1 => exact sW (Kd.V_reads' HO0.out).2.2); (case side2 => exact (Kd.V_reads' HO0.out).2.1); rintro e w' ⟨rfl, ⟨nd, rfl⟩⟩) | (go_at_call 86; (with_reducible refine (slices_Contains_int_int.calls k _ _ l0 (wrap64 (-a2)) false _ ?side1 ?side2 A9.out).mono ?_); (case side1 => exact sW (Kd.V_reads' HO0.out).2.2); (case side2 => exact (Kd.V_reads' HO0.out).2.1); rintro e w' ⟨rfl, ⟨nd, rfl⟩⟩) | (go_at_call 86; (with_reducible refine (slices_Contains_int_int.calls k _ _ l1 (wrap64 (-a2)) true _ ?side1 ?side2 A11.out).mono ?_); (case side1 => exact sW (Kd.V_reads' HO1.out).2.2); (case side2 => exact (Kd.V_reads' HO1.out).2.1); rintro e w' ⟨rfl, ⟨nd, rfl⟩⟩) | (go_at_call 86; (with_reducible refine (slices_Contains_int_int.calls k _ _ l1 a2 t104 _ ?side1 ?side2 A13.out).mono ?_); (case side1 => exact sW (Kd.V_reads' HO1.out).2.2); (case side2 => exact (Kd.V_reads' HO1.out).2.1); rintro e w' ⟨rfl, ⟨nd, rfl⟩⟩))
       go_meet
       case rel => exact ⟨_, (t104), bS, H', ⟨by first | omega | exact Nat.le_refl _⟩, ⟨by (with_reducible repeat (first | apply Kd.V_alloc | apply Kd.V_drewN | apply Kd.V_drew)); exact Kd.V_mono HO0.out (fun _ hk => ⟨hk, (by simp [Value.ownBlock])⟩)⟩, ⟨by (with_reducible repeat (first | apply Kd.V_alloc | apply Kd.V_drewN | apply Kd.V_drew)); exact Kd.V_mono HO1.out (fun _ hk => ⟨hk, (by simp [Value.ownBlock])⟩)⟩, ⟨by first | exact Kd.R_nil _ _ _ _ _ | exact Kd.N_nil _ _ _ _ _ | exact Kd.V_nil _ _ _ _ _ | exact Kd.Q_nil _ _ _ _ _ | exact Kd.S_nil _ _ _ _ _⟩, ⟨bB⟩⟩
      ·replace c12 := Bool.eq_false_iff.mpr c12
       subst c12
       have H1 : (clause_Resolve.j0 k l0 l1 a2 ([] : List Int) true) = some (r1, r2) := by rw [if_neg (show ¬ (false = true) by decide)] at H; exact H
       clear H
       have H := H1
       clear H1
       have H' := Aside0.mk H
       clear H
       go_wp2_with (first | (go_at_call 86; (with_reducible refine (slices_Contains_int_int.calls k _ _ l0 a2 true _ ?side1 ?side2 A7.out).mono ?_); (case side1 => exact sW (Kd.V_reads' HO0.out).2.2); (case side2 => exact (Kd.V_reads' HO0.out).2.1); rintro e w' ⟨rfl, ⟨nd, rfl⟩⟩) | (go_at_call 86; (with_reducible refine (slices_Contains_int_int.calls k _ _ l0 (wrap64 (-a2)) false _ ?side1 ?side2 A9.out).mono ?_); (case side1 => exact sW (Kd.V_reads' HO0.out).2.2); (case side2 => exact (Kd.V_reads' HO0.out).2.1); rintro e w' ⟨rfl, ⟨nd, rfl⟩⟩) | (go_at_call 86; (with_reducible refine (slices_Contains_int_int.calls k _ _ l1 (wrap64 (-a2)) false _ ?side1 ?side2 A11.out).mono ?_); (case side1 => exact sW (Kd.V_reads' HO1.out).2.2); (case side2 => exact (Kd.V_reads' HO1.out).2.1); rintro e w' ⟨rfl, ⟨nd, rfl⟩⟩))
       go_meet
       case rel => exact ⟨_, (true), bS, H', ⟨by first | omega | exact Nat.le_refl _⟩, ⟨by (with_reducible repeat (first | apply Kd.V_alloc | apply Kd.V_drewN | apply Kd.V_drew)); exact Kd.V_mono HO0.out (fun _ hk => ⟨hk, (by simp [Value.ownBlock])⟩)⟩, ⟨by (with_reducible repeat (first | apply Kd.V_alloc | apply Kd.V_drewN | apply Kd.V_drew)); exact Kd.V_mono HO1.out (fun _ hk => ⟨hk, (by simp [Value.ownBlock])⟩)⟩, ⟨by first | exact Kd.R_nil _ _ _ _ _ | exact Kd.N_nil _ _ _ _ _ | exact Kd.V_nil _ _ _ _ _ | exact Kd.Q_nil _ _ _ _ _ | exact Kd.S_nil _ _ _ _ _⟩, ⟨bB⟩⟩
    ·replace c8 := Bool.eq_false_iff.mpr c8
     subst c8
     have H1 : (clause_Resolve.j0 k l0 l1 a2 ([] : List Int) true) = some (r1, r2) := by rw [if_neg (show ¬ (false = true) by decide)] at H; exact H
     clear H
     have H := H1
     clear H1
     have H' := Aside0.mk H
     clear H
     go_wp2_with (first | (go_at_call 86; (with_reducible refine (slices_Contains_int_int.calls k _ _ l0 a2 false _ ?side1 ?side2 A7.out).mono ?_); (case side1 => exact sW (Kd.V_reads' HO0.out).2.2); (case side2 => exact (Kd.V_reads' HO0.out).2.1); rintro e w' ⟨rfl, ⟨nd, rfl⟩⟩))
     go_meet
     case rel => exact ⟨_, (true), bS, H', ⟨by first | omega | exact Nat.le_refl _⟩, ⟨by (with_reducible repeat (first | apply Kd.V_alloc | apply Kd.V_drewN | apply Kd.V_drew)); exact Kd.V_mono HO0.out (fun _ hk => ⟨hk, (by simp [Value.ownBlock])⟩)⟩, ⟨by (with_reducible repeat (first | apply Kd.V_alloc | apply Kd.V_drewN | apply Kd.V_drew)); exact Kd.V_mono HO1.out (fun _ hk => ⟨hk, (by simp [Value.ownBlock])⟩)⟩, ⟨by first | exact Kd.R_nil _ _ _ _ _ | exact Kd.N_nil _ _ _ _ _ | exact Kd.V_nil _ _ _ _ _ | exact Kd.Q_nil _ _ _ _ _ | exact Kd.S_nil _ _ _ _ _⟩, ⟨bB⟩⟩
 case rest =>
  clear HC4
  try clear c1
  try clear p2
  try clear c5
  try clear c5b0
  try clear c6
  try clear c6b0
  try clear p6
  try clear c8
  try clear c10
  try clear c12
  obtain ⟨kq, x40_3, rfl, HA, HJ3, HO_0, HO_1, HO_6, HB⟩ := hcut
  cases kq with
  | zero => exact absurd HA.out (by simp [clause_Resolve.j0])
  | succ kj3 =>
   have H := HA.out
   clear HA
   simp only [clause_Resolve.j0] at H
   by_cases c14 : x40_3 = true
   ·subst c14
    have H1 : (some (([] : List Int), false)) = some (r1, r2) := by rw [if_pos rfl] at H; exact H
    clear H
    have H := H1
    clear H1
    simp only [Option.some.injEq, Prod.mk.injEq] at H
    obtain ⟨rfl, rfl⟩ := H
    go_wp2
    go_ret2
    exact ⟨_, by first | rfl | (simp [errW_none, errW_some] <;> rfl) | (simp [*, errW_none, errW_some] <;> rfl), by first | exact Kd.R_nil _ _ _ _ _ | exact Kd.N_nil _ _ _ _ _ | exact Kd.V_nil _ _ _ _ _ | exact Kd.Q_nil _ _ _ _ _ | exact Kd.S_nil _ _ _ _ _, bB⟩
   ·replace c14 := Bool.eq_false_iff.mpr c14
    subst c14
    have H1 : ((slices_Concat_int_int.f kj3 (([l0, l1] : List (List Int)))).bind fun t108 => (clause_Resolve.l0 kj3 a2 ([] : List Int) t108 (t108.length : Int) 0)) = some (r1, r2) := by rw [if_neg (show ¬ (false = true) by decide)] at H; exact H
    clear H
    have H := H1
    clear H1
    obtain ⟨y105, hy105⟩ : ∃ y_ : List (List Int), y_ = (([l0, l1] : List (List Int))) := ⟨_, rfl⟩
    replace H : ((slices_Concat_int_int.f kj3 y105).bind fun t108 => (clause_Resolve.l0 kj3 a2 ([] : List Int) t108 (t108.length : Int) 0)) = some (r1, r2) := by first | (rw [hy105]; with_reducible exact H) | (have H2_ := (Option.bind_some _ _).symm.trans H; rw [hy105]; with_reducible exact H2_) | (have H2_ := (Option.bind_some _ _).symm.trans H; with_reducible exact H2_) | with_reducible exact H | (rw [hy105]; exact H) | exact H
    have Ny105 := Aside0.mk hy105
    clear hy105
    replace H := Option.bind_eq_some_iff.mp H
    obtain ⟨t108, A150, H⟩ := H
    replace H : (clause_Resolve.l0 kj3 a2 ([] : List Int) t108 (t108.length : Int) 0) = some (r1, r2) := H
    have A15 := Aside0.mk A150
    clear A150
    have H' := Aside0.mk H
    clear H
    go_wp2_with (first | ((with_reducible refine gate_dst (N := 43) rfl ?_); refine Kd.N_lit (Kd.slice 3 (Kd.int .i64)) _ 22 ?hg (N' := 43) ?hd (xs := ([l0, l1] : List (List Int))) (inner := [.slice A0 l0.length c0, .slice A1 l1.length c1]) (ok := (fun k_ => ((P0_ k_ ∨ P1_ k_) ∨ w.heap.size ≤ k_) ∧ some k_ ≠ (.slice none 0 0 : Value).ownBlock)) (okp := (fun k_ => ((P0_ k_ ∨ P1_ k_) ∨ w.heap.size ≤ k_) ∧ some k_ ≠ (.slice none 0 0 : Value).ownBlock)) ?hr ?hp (fun _ hk => hk) ((show ∀ k_, wc.heap.size ≤ k_ → (fun k_ => ((P0_ k_ ∨ P1_ k_) ∨ w.heap.size ≤ k_) ∧ some k_ ≠ (.slice none 0 0 : Value).ownBlock) k_ from fun k_ hk => ⟨(.inr (Nat.le_trans (below_size bB) hk)), Kd.fresh' (Kd.R_lt (aRw HO_6)) k_ hk⟩) _ (Nat.le_refl _)) (Below.refl _ _) (Nat.le_refl _) (by simp) ?_; (case hd => rfl); (case hg => rfl); (case hr => first | (go_simp; done) | (go_simp; rfl)); (case hp => exact (Reps.one (show Kd.FK (Kd.slice 3 (Kd.int .i64)) _ _ l0 [.slice A0 l0.length c0] from (Kd.FK_slice_mk (Kd.V_reads' (Kd.V_mono (ok' := (fun k_ => ((P0_ k_ ∨ P1_ k_) ∨ w.heap.size ≤ k_) ∧ some k_ ≠ (.slice none 0 0 : Value).ownBlock)) (HO_0.out) (fun k_ hk => ⟨hk.1, hk.2⟩))).2.1 (Kd.V_F (Kd.V_mono (ok' := (fun k_ => ((P0_ k_ ∨ P1_ k_) ∨ w.heap.size ≤ k_) ∧ some k_ ≠ (.slice none 0 0 : Value).ownBlock)) (HO_0.out) (fun k_ hk => ⟨hk.1, hk.2⟩))))) (Reps.one (show Kd.FK (Kd.slice 3 (Kd.int .i64)) _ _ l1 [.slice A1 l1.length c1] from (Kd.FK_slice_mk (Kd.V_reads' (Kd.V_mono (ok' := (fun k_ => ((P0_ k_ ∨ P1_ k_) ∨ w.heap.size ≤ k_) ∧ some k_ ≠ (.slice none 0 0 : Value).ownBlock)) (HO_1.out) (fun k_ hk => ⟨hk.1, hk.2⟩))).2.1 (Kd.V_F (Kd.V_mono (ok' := (fun k_ => ((P0_ k_ ∨ P1_ k_) ∨ w.heap.size ≤ k_) ∧ some k_ ≠ (.slice none 0 0 : Value).ownBlock)) (HO_1.out) (fun k_ hk => ⟨hk.1, hk.2⟩))))) (Reps.none _ _)))); intro v106 w16 ho17 hb hg_ hnew_; clear hg_ hnew_; (first | rw [← Ny105.out] at ho17 | (simp only [Int.reduceToNat] at ho17; rw [← Ny105.out] at ho17)); replace HO_0 := Aside0.mk (Kd.V_elder' (by (with_reducible repeat (first | apply Kd.V_alloc | apply Kd.V_drewN | apply Kd.V_drew)); exact HO_0.out) (Kd.N_base ho17) hb); replace HO_1 := Aside0.mk (Kd.V_elder' (by (with_reducible repeat (first | apply Kd.V_alloc | apply Kd.V_drewN | apply Kd.V_drew)); exact HO_1.out) (Kd.N_base ho17) hb); replace HO_6 := aR HO_6 hb; have HO107 := Aside0.mk (Kd.N_lower ho17 (below_size bB)); replace HB := aB HB hb; clear hb ho17; obtain ⟨Ao18, co18, eo18⟩ := Kd.N_slice HO107.out; subst eo18) | ((with_reducible refine gate_callee (f := 87) rfl ?_); refine goesL_ (some 44) rfl rfl Try.func87 (by kernel_rfl) rfl #[.slice Ao18 y105.length co18] rfl bM ?_; (with_reducible refine (slices_Concat_int_int.calls kj3 _ _ y105 t108 _ ?side1 ?side2 A15.out).mono ?_); (case side1 => exact sW (Kd.N_reads' HO107.out).2.2); (case side2 => exact (Kd.N_reads' HO107.out).2.1); rintro e w19 ⟨v109, rfl, ho0, hb⟩; refine ⟨_, rfl, ?_⟩; replace HO_0 := Aside0.mk (Kd.V_elder' (by (with_reducible repeat (first | apply Kd.V_alloc | apply Kd.V_drewN | apply Kd.V_drew)); exact HO_0.out) (Kd.R_base ho0) hb); replace HO_1 := Aside0.mk (Kd.V_elder' (by (with_reducible repeat (first | apply Kd.V_alloc | apply Kd.V_drewN | apply Kd.V_drew)); exact HO_1.out) (Kd.R_base ho0) hb); replace HO107 := Aside0.mk (Kd.N_elder' (by (with_reducible repeat (first | apply Kd.N_alloc | apply Kd.N_drewN | apply Kd.N_drew)); exact HO107.out) (Kd.R_base ho0) hb); have HO110 := Aside0.mk (Kd.R_lower (Kd.R_new' (Kd.R_newM (M := fun k_ => (w.heap.size ≤ k_)) ho0 (below_size bB) (fun k_ h_ => h_)) (Kd.R_lt (aRw HO_6))) (below_size bB)); replace HO_6 := aE HO_6 ho0 hb; replace HB := aB HB hb; (try clear hb); (try clear hb2); (try clear hk); (try clear hi); (try clear ho0); obtain ⟨Ao20, co20, eo20⟩ := Kd.R_slice HO110.out; subst eo20))
    go_loopg [6, 46] kj3 (fun kq v6 v46 w' => ∃ (x6_2 : List Int) (x46_2 : Int), v46 = .int .i64 x46_2 ∧ Aside0 (clause_Resolve.l0 kq a2 x6_2 t108 (t108.length : Int) x46_2 = some (r1, r2)) ∧ Aside0 (kq ≤ kj3) ∧ Aside0 (Kd.R (Kd.int .i64) 3 w' w.heap.size (fun k_ => (w.heap.size ≤ k_) ∧ some k_ ≠ ob Ao20 t108 co20) v6 x6_2) ∧ Aside0 (Kd.R (Kd.int .i64) 3 w' w.heap.size (fun k_ => (w.heap.size ≤ k_) ∧ some k_ ≠ (v6 : Value).ownBlock) (.slice Ao20 t108.length co20) t108) ∧ Aside0 (Below w.heap.size w w'))
    case atStart => exact ⟨(([] : List Int)), (0), bS, H', ⟨Nat.le_refl _⟩, ⟨aRw HO_6⟩, ⟨by (with_reducible repeat (first | apply Kd.R_alloc | apply Kd.R_drewN | apply Kd.R_drew)); exact Kd.R_mono HO110.out bK⟩, ⟨bB⟩⟩
    case round =>
     clear H'
     try clear c1
     try clear p2
     try clear c5
     try clear c5b0
     try clear c6
     try clear c6b0
     try clear p6
     try clear c8
     try clear c10
     try clear c12
     try clear c14
     try clear p2
     try clear p6
     obtain ⟨x6_2, x46_2, rfl, HA, HK2, HO_6, HO_44, HB⟩ := hrel
     cases gk with
     | zero => exact absurd HA.out (by simp [clause_Resolve.l0])
     | succ k2 =>
      have H := HA.out
      clear HA
      simp only [clause_Resolve.l0] at H
      by_cases c21 : x46_2 < (t108.length : Int)
      ·rw [if_pos c21] at H
       have c21b0 : decide (x46_2 < (t108.length : Int)) = true := decide_eq_true c21
       clear c21
       by_cases c22 : 0 ≤ x46_2
       ·rw [if_pos c22] at H
        have c22b0 : decide (0 ≤ x46_2) = true := decide_eq_true c22
        clear c22
        by_cases c23 : x46_2 < (t108.length : Int)
        ·rw [if_pos c23] at H
         have c23b0 : decide (x46_2 < (t108.length : Int)) = true := decide_eq_true c23
         clear c23
         replace H := Option.bind_eq_some_iff.mp H
         obtain ⟨t112, A240, H⟩ := H
         replace H : (if t112 = a2 then (clause_Resolve.l0 k2 a2 x6_2 t108 (t108.length : Int) (wrap64 (x46_2 + 1))) else (if x6_2.length < 17592186044416 then (clause_Resolve.l0 k2 a2 (x6_2 ++ [rd t108 x46_2]) t108 (t108.length : Int) (wrap64 (x46_2 + 1))) else (none))) = some (r1, r2) := H
         have A24 := Aside0.mk A240
         clear A240
         by_cases c25 : t112 = a2
         ·rw [if_pos c25] at H
          have c25b0 : (t112 == a2) = true := beq_iff_eq.mpr c25
          have c25b1 : (t112 != a2) = false := bne_eq_false_iff_eq.mpr c25
          clear c25
          have H' := Aside0.mk H
          clear H
          have p111 : 0 ≤ (x46_2 : Int) := oD
          have q111 : x46_2 < (t108.length : Int) := oD
          obtain ⟨ad111, e111, hx111_0⟩ := Kd.at_int (Kd.R_reads' HO_44.out).2.2 x46_2 p111 q111
          cases e111
          replace p111 := eq_true p111
          replace q111 := eq_true q111
          go_wp2_with (first | ((with_reducible refine gate_callee (f := 66) rfl ?_); refine goesL_ (some 51) rfl rfl Try.func66 (by kernel_rfl) rfl #[.int .i64 (rd t108 x46_2)] rfl bM ?_; (with_reducible refine (clause_abs.calls (rd t108 x46_2) t112 _ A24.out).mono ?_); rintro e w' ⟨rfl, ⟨nd, rfl⟩⟩; refine ⟨_, rfl, ?_⟩))
          go_roundg k2
          case measure => have := HJ3.out; have := HK2.out; omega
          case rel => exact ⟨(x6_2), (wrap64 (x46_2 + 1)), bS, H', ⟨by have := HJ3.out; have := HK2.out; omega⟩, ⟨aRw HO_6⟩, ⟨aRw HO_44⟩, ⟨bB⟩⟩
         ·rw [if_neg c25] at H
          have c25b0 : (t112 == a2) = false := beq_eq_false_iff_ne.mpr c25
          have c25b1 : (t112 != a2) = true := bne_iff_ne.mpr c25
          by_cases c26 : x6_2.length < 17592186044416
          ·rw [if_pos c26] at H
           have LMc26 := Aside0.mk c26
           clear c26
           obtain ⟨y113, hy113⟩ : ∃ y_ : List Int, y_ = (x6_2 ++ [rd t108 x46_2]) := ⟨_, rfl⟩
           replace H : (clause_Resolve.l0 k2 a2 y113 t108 (t108.length : Int) (wrap64 (x46_2 + 1))) = some (r1, r2) := by first | (rw [hy113]; with_reducible exact H) | (have H2_ := (Option.bind_some _ _).symm.trans H; rw [hy113]; with_reducible exact H2_) | (have H2_ := (Option.bind_some _ _).symm.trans H; with_reducible exact H2_) | with_reducible exact H | (rw [hy113]; exact H) | exact H
           have Ny113 := Aside0.mk hy113
           clear hy113
           have H' := Aside0.mk H
           clear H
           have p111 : 0 ≤ (x46_2 : Int) := oD
           have q111 : x46_2 < (t108.length : Int) := oD
           obtain ⟨ad111, e111, hx111_0⟩ := Kd.at_int (Kd.R_reads' HO_44.out).2.2 x46_2 p111 q111
           cases e111
           replace p111 := eq_true p111
           replace q111 := eq_true q111
           go_wp2_with (first | ((with_reducible refine gate_callee (f := 66) rfl ?_); refine goesL_ (some 51) rfl rfl Try.func66 (by kernel_rfl) rfl #[.int .i64 (rd t108 x46_2)] rfl bM ?_; (with_reducible refine (clause_abs.calls (rd t108 x46_2) t112 _ A24.out).mono ?_); rintro e w' ⟨rfl, ⟨nd, rfl⟩⟩; refine ⟨_, rfl, ?_⟩) | ((with_reducible refine gate_builtin (b := .append) (xs := #[.tmp 54, .tmp 56]) rfl ?_); at_builtin; refine Kd.R_append (Kd.int .i64) (w0 := w) w.heap.size rfl (.tmp 54) (.tmp 56) 22 3 (.int .i64 0) 8 rfl Try.underlying22 info3 rfl (by decide) (by omega) u6 x6_2 (rd t108 x46_2) [.int .i64 (rd t108 x46_2)] (fun k_ => (w.heap.size ≤ k_) ∧ some k_ ≠ (.slice (some ad111) t108.length co20 : Value).ownBlock) (fun _ => False) rfl rfl ?aP (fun _ hk => hk.elim) ?aF ?aO ?aB ?aS ?aL ?_; (case aP => exact rfl); (case aB => exact bB); (case aF => exact (fun k_ hk => ⟨(Nat.le_trans (below_size bB) hk), Kd.fresh' (Kd.R_lt (aRw HO_44)) k_ hk⟩)); (case aO => exact (aRw HO_6)); (case aS => exact (below_size bB)); (case aL => have := LMc26.out; omega); intro v114 w27 ho hb hg hat; rw [← Ny113.out] at ho; replace HO_44 := Aside0.mk (Kd.R_after (ok := (fun k_ => (w.heap.size ≤ k_))) (aRw HO_44) hg hat); replace HB := Aside0.mk hb; have HO115 := Aside0.mk ho; clear HO_6; clear ho hb hg hat))
           go_roundg k2
           case measure => have := HJ3.out; have := HK2.out; omega
           case rel => exact ⟨(y113), (wrap64 (x46_2 + 1)), bS, H', ⟨by have := HJ3.out; have := HK2.out; omega⟩, ⟨aRw HO115⟩, ⟨aRw HO_44⟩, ⟨bB⟩⟩
          ·rw [if_neg c26] at H
           exact absurd H (by simp)
        ·rw [if_neg c23] at H
         exact absurd H (by simp)
       ·rw [if_neg c22] at H
        exact absurd H (by simp)
      ·rw [if_neg c21] at H
       have c21b0 : decide (x46_2 < (t108.length : Int)) = false := decide_eq_false c21
       clear c21
       replace H := Option.bind_eq_some_iff.mp H
       obtain ⟨⟨t116, t117⟩, A280, H⟩ := H
       replace H : (some (t116, !t117)) = some (r1, r2) := H
       have A28 := Aside0.mk A280
       clear A280
       simp only [Option.some.injEq, Prod.mk.injEq] at H
       obtain ⟨rfl, rfl⟩ := H
       obtain ⟨Ao29, co29, eo29⟩ := Kd.R_slice HO_6.out
       subst eo29
       go_wp2_with (first | ((with_reducible refine gate_callee (f := 33) rfl ?_); refine goesL_ (some 61) rfl rfl Try.func33 (by kernel_rfl) rfl #[.slice Ao29 x6_2.length co29] rfl bM ?_; (with_reducible refine (clause_Clean.calls k2 _ _ x6_2 t116 t117 _ ?side1 ?side2 A28.out).mono ?_); (case side1 => exact sW (Kd.R_reads' HO_6.out).2.2); (case side2 => exact (Kd.R_reads' HO_6.out).2.1); rintro e w30 ⟨v118, rfl, ho0, hb⟩; refine ⟨_, rfl, ?_⟩; have HO119 := Aside0.mk (Kd.R_lower (Kd.R_new' (Kd.R_new' (Kd.R_newM (M := fun k_ => (w.heap.size ≤ k_)) ho0 (below_size bB) (fun k_ h_ => h_)) (Kd.R_lt (aRw HO_6))) (Kd.R_lt (aRw HO_44))) (below_size bB)); replace HO_6 := aE HO_6 ho0 hb; replace HO_44 := aE HO_44 ho0 hb; replace HB := aB HB hb; (try clear hb); (try clear hb2); (try clear hk); (try clear hi); (try clear ho0)))
       go_ret2
       exact ⟨_, by first | rfl | (simp [errW_none, errW_some] <;> rfl) | (simp [*, errW_none, errW_some] <;> rfl), by (with_reducible repeat (first | apply Kd.R_alloc | apply Kd.R_drewN | apply Kd.R_drew)); exact Kd.R_mono HO119.out (fun _ hk => hk.1.1.1), bB⟩

end Go.Proofs.Ytohgjbkiemnfnaa.X
