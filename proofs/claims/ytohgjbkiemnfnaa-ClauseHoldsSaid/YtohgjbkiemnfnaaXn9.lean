-- Written by a program of this session (wip/xp), out of the translation. Not trusted: Lean checks it.
import Derived.Test.YtohgjbkiemnfnaaX0
import Derived.Test.YtohgjbkiemnfnaaXn38
import Derived.Test.YtohgjbkiemnfnaaXn33
import Derived.Test.YtohgjbkiemnfnaaXn30
import Derived.Test.YtohgjbkiemnfnaaXn39
import Derived.Test.YtohgjbkiemnfnaaXn40
import Derived.Test.YtohgjbkiemnfnaaXn41
-- shrunk
namespace Go.Proofs.Ytohgjbkiemnfnaa.X
open Go.RowKit Go.Proofs.YtohgjbkiemnfnaaW.PrintWords Go.Proofs.YtohgjbkiemnfnaaW.PrintLast Go.Proofs.YtohgjbkiemnfnaaW.PrintMore
attribute [local go_sem] Lab.str_gtr Lab.str_leq Lab.str_geq max2_int min2_int max_two min_two max_three min_three max_four min_four   -- for this text's walks alone
set_option linter.unusedVariables false
set_option linter.unusedSimpArgs false

/-! ### ferrulelaw12_ClauseHolds: function 9 -/
mutual
def ferrulelaw12_ClauseHolds.j0 : Nat → List Int → List Bool → Bool → Option (Bool)
 | 0, _, _, _ => none
 | k + 1, x0, x1, x18 => if x18 = true then (some true) else ((clause_Holds.f x0 x1).bind fun t102 => ((clause_Fails.f x0 x1).bind fun t103 => ((ferruleref12_Holds.f k x0 x1).bind fun t104 => (if (t102 != t104) = true then (ferrulelaw12_ClauseHolds.j1 k x0 x1 t102 true) else ((ferruleref12_Fails.f k x0 x1).bind fun t105 => (if (t103 != t105) = true then (ferrulelaw12_ClauseHolds.j1 k x0 x1 t102 true) else (if t102 = true then (ferrulelaw12_ClauseHolds.j1 k x0 x1 t102 t103) else (ferrulelaw12_ClauseHolds.j1 k x0 x1 t102 false))))))))
def ferrulelaw12_ClauseHolds.j1 : Nat → List Int → List Bool → Bool → Bool → Option (Bool)
 | 0, _, _, _, _ => none
 | k + 1, x0, x1, x5, x42 => if x42 = true then (some false) else ((clause_Clean.f k x0).bind fun bt106 => (if bt106.2 = true then (some true) else ((clause_Holds.f bt106.1 x1).bind fun t110 => (some (t110 == x5)))))
end
def ferrulelaw12_ClauseHolds.f (k : Nat) (l0 : List Int) (l1 : List Bool) : Option (Bool) := (ferrulelaw12_awake.f k).bind fun t101 => (if t101 = true then (if (l0.length : Int) > 60 then (ferrulelaw12_ClauseHolds.j0 k l0 l1 true) else (ferrulelaw12_ClauseHolds.j0 k l0 l1 (decide ((l1.length : Int) > 60)))) else (some false))
theorem ferrulelaw12_ClauseHolds.mono_l : ∀ k, (∀ y0 y1 y2, LeO (ferrulelaw12_ClauseHolds.j0 k y0 y1 y2) (ferrulelaw12_ClauseHolds.j0 (k + 1) y0 y1 y2)) ∧ (∀ y0 y1 y2 y3, LeO (ferrulelaw12_ClauseHolds.j1 k y0 y1 y2 y3) (ferrulelaw12_ClauseHolds.j1 (k + 1) y0 y1 y2 y3))
 | 0 => ⟨fun _ _ _ r h => by simp [ferrulelaw12_ClauseHolds.j0] at h, fun _ _ _ _ r h => by simp [ferrulelaw12_ClauseHolds.j1] at h⟩
 | k + 1 => by
  obtain ⟨ih0, ih1⟩ := ferrulelaw12_ClauseHolds.mono_l k
  refine ⟨?_, ?_⟩
  ·intro y0 y1 y2
   unfold ferrulelaw12_ClauseHolds.j0
   repeat' first
   | (with_reducible exact ih0 _ _ _)
   | (with_reducible exact ih1 _ _ _ _)
   | (with_reducible exact clause_Clean.mono _ _)
   | (with_reducible exact ferrulelaw12_awake.mono _)
   | (with_reducible exact ferruleref12_Fails.mono _ _ _)
   | (with_reducible exact ferruleref12_Holds.mono _ _ _)
   | (with_reducible exact LeO.refl _)
   | (with_reducible exact LeO.none _)
   | (with_reducible refine LeO.ite ?_ ?_)
   | (with_reducible refine LeO.bind ?_ (fun _ => ?_))
   | exact ih0 _ _ _
   | exact ih1 _ _ _ _
   | exact clause_Clean.mono _ _
   | exact ferrulelaw12_awake.mono _
   | exact ferruleref12_Fails.mono _ _ _
   | exact ferruleref12_Holds.mono _ _ _
   | exact LeO.none _
   | refine LeO.ite ?_ ?_
   | refine LeO.bind ?_ (fun _ => ?_)
  ·intro y0 y1 y2 y3
   unfold ferrulelaw12_ClauseHolds.j1
   repeat' first
   | (with_reducible exact ih0 _ _ _)
   | (with_reducible exact ih1 _ _ _ _)
   | (with_reducible exact clause_Clean.mono _ _)
   | (with_reducible exact ferrulelaw12_awake.mono _)
   | (with_reducible exact ferruleref12_Fails.mono _ _ _)
   | (with_reducible exact ferruleref12_Holds.mono _ _ _)
   | (with_reducible exact LeO.refl _)
   | (with_reducible exact LeO.none _)
   | (with_reducible refine LeO.ite ?_ ?_)
   | (with_reducible refine LeO.bind ?_ (fun _ => ?_))
   | exact ih0 _ _ _
   | exact ih1 _ _ _ _
   | exact clause_Clean.mono _ _
   | exact ferrulelaw12_awake.mono _
   | exact ferruleref12_Fails.mono _ _ _
   | exact ferruleref12_Holds.mono _ _ _
   | exact LeO.none _
   | refine LeO.ite ?_ ?_
   | refine LeO.bind ?_ (fun _ => ?_)
theorem ferrulelaw12_ClauseHolds.mono : ∀ a0 a1 k, LeO (ferrulelaw12_ClauseHolds.f k a0 a1) (ferrulelaw12_ClauseHolds.f (k + 1) a0 a1) := by
 intro a0 a1 k
 obtain ⟨ih0, ih1⟩ := ferrulelaw12_ClauseHolds.mono_l k
 unfold ferrulelaw12_ClauseHolds.f
 repeat' first
   | (with_reducible exact ih0 _ _ _)
   | (with_reducible exact ih1 _ _ _ _)
   | (with_reducible exact clause_Clean.mono _ _)
   | (with_reducible exact ferrulelaw12_awake.mono _)
   | (with_reducible exact ferruleref12_Fails.mono _ _ _)
   | (with_reducible exact ferruleref12_Holds.mono _ _ _)
   | (with_reducible exact LeO.refl _)
   | (with_reducible exact LeO.none _)
   | (with_reducible refine LeO.ite ?_ ?_)
   | (with_reducible refine LeO.bind ?_ (fun _ => ?_))
   | exact ih0 _ _ _
   | exact ih1 _ _ _ _
   | exact clause_Clean.mono _ _
   | exact ferrulelaw12_awake.mono _
   | exact ferruleref12_Fails.mono _ _ _
   | exact ferruleref12_Holds.mono _ _ _
   | exact LeO.none _
   | refine LeO.ite ?_ ?_
   | refine LeO.bind ?_ (fun _ => ?_)
set_option maxHeartbeats 8000000 in
set_option maxRecDepth 100000 in
theorem ferrulelaw12_ClauseHolds.calls (k : Nat) (A0 : Option Addr) (c0 : Nat) (l0 : List Int) (A1 : Option Addr) (c1 : Nat) (l1 : List Bool) (r : Bool) (w : World) (hr0 : Kd.C (Kd.int .i64) w A0 l0.length l0) (hc0 : l0.length ≤ c0) (hr1 : Kd.C Kd.bool w A1 l1.length l1) (hc1 : l1.length ≤ c1) (h : ferrulelaw12_ClauseHolds.f k l0 l1 = some r) :
  Calls Try.prog 9 #[.slice A0 l0.length c0, .slice A1 l1.length c1] w fun e w' => e = .returned (.bool r) ∧ Below w.heap.size w w' := by
 have HR0 := Aside0.mk hr0
 have HC0 := Aside0.mk hc0
 clear hr0 hc0
 have HR1 := Aside0.mk hr1
 have HC1 := Aside0.mk hc1
 clear hr1 hc1
 have HB := Aside0.mk (Below.refl w.heap.size w)
 have H : ((ferrulelaw12_awake.f k).bind fun t101 => (if t101 = true then (if (l0.length : Int) > 60 then (ferrulelaw12_ClauseHolds.j0 k l0 l1 true) else (ferrulelaw12_ClauseHolds.j0 k l0 l1 (decide ((l1.length : Int) > 60)))) else (some false))) = some r := h
 clear h
 replace H := Option.bind_eq_some_iff.mp H
 obtain ⟨t101, A30, H⟩ := H
 replace H : (if t101 = true then (if (l0.length : Int) > 60 then (ferrulelaw12_ClauseHolds.j0 k l0 l1 true) else (ferrulelaw12_ClauseHolds.j0 k l0 l1 (decide ((l1.length : Int) > 60)))) else (some false)) = some r := H
 have A3 := Aside0.mk A30
 clear A30
 by_cases c4 : t101 = true
 ·subst c4
  have H1 : (if (l0.length : Int) > 60 then (ferrulelaw12_ClauseHolds.j0 k l0 l1 true) else (ferrulelaw12_ClauseHolds.j0 k l0 l1 (decide ((l1.length : Int) > 60)))) = some r := by rw [if_pos rfl] at H; exact H
  clear H
  have H := H1
  clear H1
  have HC5 := Aside0.mk H
  clear H
  go_enter Try.func9, Try.ntmps9
  go_upto_region 3 with (first | ((with_reducible refine gate_callee (f := 30) rfl ?_); refine goesL_ (some 9) rfl rfl Try.func30 (by kernel_rfl) rfl #[] rfl bM ?_; (with_reducible refine (ferrulelaw12_awake.calls k  true _ A3.out).mono ?_); rintro e w6 ⟨rfl, hb⟩; refine ⟨_, rfl, ?_⟩; replace HB := aB HB hb; (try clear hb); (try clear hb2); (try clear hk); (try clear hi)))
  (try simp only [Act.put, List.setIfInBounds_toArray, List.set_cons_zero, List.set_cons_succ])
  go_cut [18] (fun v18 wc => ∃ (kq : Nat) (x18_4 : Bool), v18 = .bool x18_4 ∧ Aside0 (ferrulelaw12_ClauseHolds.j0 kq l0 l1 x18_4 = some r) ∧ Aside0 (kq ≤ k) ∧ Aside0 (Below w.heap.size w wc))
  case first =>
   have H := HC5.out
   clear HC5
   by_cases c7 : (l0.length : Int) > 60
   ·rw [if_pos c7] at H
    have c7b0 : decide (60 < (l0.length : Int)) = true := decide_eq_true c7
    have c7b1 : decide (60 < l0.length) = true := decide_eq_true (by omega)
    clear c7
    (first | rw [c7b0] | (simp only [i64_w, i32_w]; rw [c7b0]) | skip)
    have H' := Aside0.mk H
    clear H
    go_wp2
    go_meet
    case rel => exact ⟨_, (true), bS, H', ⟨by first | omega | exact Nat.le_refl _⟩, ⟨bB⟩⟩
   ·rw [if_neg c7] at H
    have c7b0 : decide (60 < (l0.length : Int)) = false := decide_eq_false c7
    have c7b1 : decide (60 < l0.length) = false := decide_eq_false (by omega)
    clear c7
    (first | rw [c7b0] | (simp only [i64_w, i32_w]; rw [c7b0]) | skip)
    have H' := Aside0.mk H
    clear H
    go_wp2
    go_meet
    case rel => exact ⟨_, (decide ((l1.length : Int) > 60)), bS, H', ⟨by first | omega | exact Nat.le_refl _⟩, ⟨bB⟩⟩
  case rest =>
   clear HC5
   try clear c1
   try clear p2
   try clear c3
   try clear c4
   try clear p6
   try clear c7
   try clear c7b0
   try clear c7b1
   obtain ⟨kq, x18_4, rfl, HA, HJ4, HB⟩ := hcut
   cases kq with
   | zero => exact absurd HA.out (by simp [ferrulelaw12_ClauseHolds.j0])
   | succ kj4 =>
    have H := HA.out
    clear HA
    simp only [ferrulelaw12_ClauseHolds.j0] at H
    by_cases c8 : x18_4 = true
    ·subst c8
     have H1 : (some true) = some r := by rw [if_pos rfl] at H; exact H
     clear H
     have H := H1
     clear H1
     obtain rfl := Option.some.inj H
     go_wp2
     go_ret
     exact ⟨by first | rfl | (simp [errW_none, errW_some] <;> rfl) | (simp [*, errW_none, errW_some] <;> rfl), bB⟩
    ·replace c8 := Bool.eq_false_iff.mpr c8
     subst c8
     have H1 : ((clause_Holds.f l0 l1).bind fun t102 => ((clause_Fails.f l0 l1).bind fun t103 => ((ferruleref12_Holds.f kj4 l0 l1).bind fun t104 => (if (t102 != t104) = true then (ferrulelaw12_ClauseHolds.j1 kj4 l0 l1 t102 true) else ((ferruleref12_Fails.f kj4 l0 l1).bind fun t105 => (if (t103 != t105) = true then (ferrulelaw12_ClauseHolds.j1 kj4 l0 l1 t102 true) else (if t102 = true then (ferrulelaw12_ClauseHolds.j1 kj4 l0 l1 t102 t103) else (ferrulelaw12_ClauseHolds.j1 kj4 l0 l1 t102 false)))))))) = some r := by rw [if_neg (show ¬ (false = true) by decide)] at H; exact H
     clear H
     have H := H1
     clear H1
     replace H := Option.bind_eq_some_iff.mp H
     obtain ⟨t102, A90, H⟩ := H
     replace H : ((clause_Fails.f l0 l1).bind fun t103 => ((ferruleref12_Holds.f kj4 l0 l1).bind fun t104 => (if (t102 != t104) = true then (ferrulelaw12_ClauseHolds.j1 kj4 l0 l1 t102 true) else ((ferruleref12_Fails.f kj4 l0 l1).bind fun t105 => (if (t103 != t105) = true then (ferrulelaw12_ClauseHolds.j1 kj4 l0 l1 t102 true) else (if t102 = true then (ferrulelaw12_ClauseHolds.j1 kj4 l0 l1 t102 t103) else (ferrulelaw12_ClauseHolds.j1 kj4 l0 l1 t102 false))))))) = some r := H
     have A9 := Aside0.mk A90
     clear A90
     replace H := Option.bind_eq_some_iff.mp H
     obtain ⟨t103, A100, H⟩ := H
     replace H : ((ferruleref12_Holds.f kj4 l0 l1).bind fun t104 => (if (t102 != t104) = true then (ferrulelaw12_ClauseHolds.j1 kj4 l0 l1 t102 true) else ((ferruleref12_Fails.f kj4 l0 l1).bind fun t105 => (if (t103 != t105) = true then (ferrulelaw12_ClauseHolds.j1 kj4 l0 l1 t102 true) else (if t102 = true then (ferrulelaw12_ClauseHolds.j1 kj4 l0 l1 t102 t103) else (ferrulelaw12_ClauseHolds.j1 kj4 l0 l1 t102 false)))))) = some r := H
     have A10 := Aside0.mk A100
     clear A100
     have HC11 := Aside0.mk H
     clear H
     go_upto_region 6 with (first | ((with_reducible refine gate_callee (f := 38) rfl ?_); refine goesL_ (some 21) rfl rfl Try.func38 (by kernel_rfl) rfl #[.slice A0 l0.length c0, .slice A1 l1.length c1] rfl bM ?_; (with_reducible refine (clause_Holds.calls _ _ l0 _ _ l1 t102 _ ?side1 ?side2 ?side3 ?side4 A9.out).mono ?_); (case side1 => exact sW (Kd.C_below HR0.out HB.out)); (case side2 => exact HC0.out); (case side3 => exact sW (Kd.C_below HR1.out HB.out)); (case side4 => exact HC1.out); rintro e w12 ⟨rfl, hb⟩; refine ⟨_, rfl, ?_⟩; replace HB := aB HB hb; (try clear hb); (try clear hb2); (try clear hk); (try clear hi)) | ((with_reducible refine gate_callee (f := 39) rfl ?_); refine goesL_ (some 24) rfl rfl Try.func39 (by kernel_rfl) rfl #[.slice A0 l0.length c0, .slice A1 l1.length c1] rfl bM ?_; (with_reducible refine (clause_Fails.calls _ _ l0 _ _ l1 t103 _ ?side1 ?side2 ?side3 ?side4 A10.out).mono ?_); (case side1 => exact sW (Kd.C_below HR0.out HB.out)); (case side2 => exact HC0.out); (case side3 => exact sW (Kd.C_below HR1.out HB.out)); (case side4 => exact HC1.out); rintro e w13 ⟨rfl, hb⟩; refine ⟨_, rfl, ?_⟩; replace HB := aB HB hb; (try clear hb); (try clear hb2); (try clear hk); (try clear hi)))
     (try simp only [Act.put, List.setIfInBounds_toArray, List.set_cons_zero, List.set_cons_succ])
     go_cut [42] (fun v42 wc => ∃ (kq : Nat) (x42_10 : Bool), v42 = .bool x42_10 ∧ Aside0 (ferrulelaw12_ClauseHolds.j1 kq l0 l1 t102 x42_10 = some r) ∧ Aside0 (kq ≤ kj4) ∧ Aside0 (Below w.heap.size w wc))
     case first =>
      have H := HC11.out
      clear HC11
      replace H := Option.bind_eq_some_iff.mp H
      obtain ⟨t104, A140, H⟩ := H
      replace H : (if (t102 != t104) = true then (ferrulelaw12_ClauseHolds.j1 kj4 l0 l1 t102 true) else ((ferruleref12_Fails.f kj4 l0 l1).bind fun t105 => (if (t103 != t105) = true then (ferrulelaw12_ClauseHolds.j1 kj4 l0 l1 t102 true) else (if t102 = true then (ferrulelaw12_ClauseHolds.j1 kj4 l0 l1 t102 t103) else (ferrulelaw12_ClauseHolds.j1 kj4 l0 l1 t102 false))))) = some r := H
      have A14 := Aside0.mk A140
      clear A140
      by_cases c15 : (t102 != t104) = true
      ·rw [if_pos c15] at H
       have c15b0 : (t102 != t104) = true := c15
       (try (have c15b1 : decide (t102 = t104) = false := by simpa using c15))
       (try (have c15b2 : (t102 == t104) = false := by simpa using c15))
       (try (have c15b3 : ¬ (t102 = t104) := by simpa using c15))
       clear c15
       (first | rw [c15b0] | (simp only [i64_w, i32_w]; rw [c15b0]) | skip)
       have H' := Aside0.mk H
       clear H
       go_wp2_with (first | ((with_reducible refine gate_callee (f := 40) rfl ?_); refine goesL_ (some 28) rfl rfl Try.func40 (by kernel_rfl) rfl #[.slice A0 l0.length c0, .slice A1 l1.length c1] rfl bM ?_; (with_reducible refine (ferruleref12_Holds.calls kj4 _ _ l0 _ _ l1 t104 _ ?side1 ?side2 ?side3 ?side4 A14.out).mono ?_); (case side1 => exact sW (Kd.C_below HR0.out HB.out)); (case side2 => exact HC0.out); (case side3 => exact sW (Kd.C_below HR1.out HB.out)); (case side4 => exact HC1.out); rintro e w' ⟨rfl, ⟨nd, rfl⟩⟩; refine ⟨_, rfl, ?_⟩))
       go_meet
       case rel => exact ⟨_, (true), bS, H', ⟨by have := HJ4.out; first | omega | exact Nat.le_refl _⟩, ⟨bB⟩⟩
      ·rw [if_neg c15] at H
       have c15b0 : (t102 != t104) = false := by simpa using c15
       (try (have c15b1 : decide (t102 = t104) = true := by simpa using c15))
       (try (have c15b2 : (t102 == t104) = true := by simpa using c15))
       clear c15
       (first | rw [c15b0] | (simp only [i64_w, i32_w]; rw [c15b0]) | skip)
       replace H := Option.bind_eq_some_iff.mp H
       obtain ⟨t105, A160, H⟩ := H
       replace H : (if (t103 != t105) = true then (ferrulelaw12_ClauseHolds.j1 kj4 l0 l1 t102 true) else (if t102 = true then (ferrulelaw12_ClauseHolds.j1 kj4 l0 l1 t102 t103) else (ferrulelaw12_ClauseHolds.j1 kj4 l0 l1 t102 false))) = some r := H
       have A16 := Aside0.mk A160
       clear A160
       by_cases c17 : (t103 != t105) = true
       ·rw [if_pos c17] at H
        have c17b0 : (t103 != t105) = true := c17
        (try (have c17b1 : decide (t103 = t105) = false := by simpa using c17))
        (try (have c17b2 : (t103 == t105) = false := by simpa using c17))
        (try (have c17b3 : ¬ (t103 = t105) := by simpa using c17))
        clear c17
        have H' := Aside0.mk H
        clear H
        go_wp2_with (first | ((with_reducible refine gate_callee (f := 40) rfl ?_); refine goesL_ (some 28) rfl rfl Try.func40 (by kernel_rfl) rfl #[.slice A0 l0.length c0, .slice A1 l1.length c1] rfl bM ?_; (with_reducible refine (ferruleref12_Holds.calls kj4 _ _ l0 _ _ l1 t104 _ ?side1 ?side2 ?side3 ?side4 A14.out).mono ?_); (case side1 => exact sW (Kd.C_below HR0.out HB.out)); (case side2 => exact HC0.out); (case side3 => exact sW (Kd.C_below HR1.out HB.out)); (case side4 => exact HC1.out); rintro e w' ⟨rfl, ⟨nd, rfl⟩⟩; refine ⟨_, rfl, ?_⟩) | (go_at_call 41; (with_reducible refine (ferruleref12_Fails.calls kj4 _ _ l0 _ _ l1 t105 _ ?side1 ?side2 ?side3 ?side4 A16.out).mono ?_); (case side1 => exact sW (Kd.C_below HR0.out bB)); (case side2 => exact HC0.out); (case side3 => exact sW (Kd.C_below HR1.out bB)); (case side4 => exact HC1.out); rintro e w' ⟨rfl, ⟨nd, rfl⟩⟩))
        go_meet
        case rel => exact ⟨_, (true), bS, H', ⟨by have := HJ4.out; first | omega | exact Nat.le_refl _⟩, ⟨bB⟩⟩
       ·rw [if_neg c17] at H
        have c17b0 : (t103 != t105) = false := by simpa using c17
        (try (have c17b1 : decide (t103 = t105) = true := by simpa using c17))
        (try (have c17b2 : (t103 == t105) = true := by simpa using c17))
        clear c17
        by_cases c18 : t102 = true
        ·subst c18
         have H1 : (ferrulelaw12_ClauseHolds.j1 kj4 l0 l1 true t103) = some r := by rw [if_pos rfl] at H; exact H
         clear H
         have H := H1
         clear H1
         have H' := Aside0.mk H
         clear H
         go_wp2_with (first | ((with_reducible refine gate_callee (f := 40) rfl ?_); refine goesL_ (some 28) rfl rfl Try.func40 (by kernel_rfl) rfl #[.slice A0 l0.length c0, .slice A1 l1.length c1] rfl bM ?_; (with_reducible refine (ferruleref12_Holds.calls kj4 _ _ l0 _ _ l1 t104 _ ?side1 ?side2 ?side3 ?side4 A14.out).mono ?_); (case side1 => exact sW (Kd.C_below HR0.out HB.out)); (case side2 => exact HC0.out); (case side3 => exact sW (Kd.C_below HR1.out HB.out)); (case side4 => exact HC1.out); rintro e w' ⟨rfl, ⟨nd, rfl⟩⟩; refine ⟨_, rfl, ?_⟩) | (go_at_call 41; (with_reducible refine (ferruleref12_Fails.calls kj4 _ _ l0 _ _ l1 t105 _ ?side1 ?side2 ?side3 ?side4 A16.out).mono ?_); (case side1 => exact sW (Kd.C_below HR0.out bB)); (case side2 => exact HC0.out); (case side3 => exact sW (Kd.C_below HR1.out bB)); (case side4 => exact HC1.out); rintro e w' ⟨rfl, ⟨nd, rfl⟩⟩))
         go_meet
         case rel => exact ⟨_, (t103), bS, H', ⟨by have := HJ4.out; first | omega | exact Nat.le_refl _⟩, ⟨bB⟩⟩
        ·replace c18 := Bool.eq_false_iff.mpr c18
         subst c18
         have H1 : (ferrulelaw12_ClauseHolds.j1 kj4 l0 l1 false false) = some r := by rw [if_neg (show ¬ (false = true) by decide)] at H; exact H
         clear H
         have H := H1
         clear H1
         have H' := Aside0.mk H
         clear H
         go_wp2_with (first | ((with_reducible refine gate_callee (f := 40) rfl ?_); refine goesL_ (some 28) rfl rfl Try.func40 (by kernel_rfl) rfl #[.slice A0 l0.length c0, .slice A1 l1.length c1] rfl bM ?_; (with_reducible refine (ferruleref12_Holds.calls kj4 _ _ l0 _ _ l1 t104 _ ?side1 ?side2 ?side3 ?side4 A14.out).mono ?_); (case side1 => exact sW (Kd.C_below HR0.out HB.out)); (case side2 => exact HC0.out); (case side3 => exact sW (Kd.C_below HR1.out HB.out)); (case side4 => exact HC1.out); rintro e w' ⟨rfl, ⟨nd, rfl⟩⟩; refine ⟨_, rfl, ?_⟩) | (go_at_call 41; (with_reducible refine (ferruleref12_Fails.calls kj4 _ _ l0 _ _ l1 t105 _ ?side1 ?side2 ?side3 ?side4 A16.out).mono ?_); (case side1 => exact sW (Kd.C_below HR0.out bB)); (case side2 => exact HC0.out); (case side3 => exact sW (Kd.C_below HR1.out bB)); (case side4 => exact HC1.out); rintro e w' ⟨rfl, ⟨nd, rfl⟩⟩))
         go_meet
         case rel => exact ⟨_, (false), bS, H', ⟨by have := HJ4.out; first | omega | exact Nat.le_refl _⟩, ⟨bB⟩⟩
     case rest =>
      clear HC11
      try clear c1
      try clear p2
      try clear c3
      try clear c4
      try clear p6
      try clear c7
      try clear c7b0
      try clear c7b1
      try clear c8
      try clear c9
      try clear c15
      try clear c15b0
      try clear c15b1
      try clear c15b2
      try clear c17
      try clear c17b0
      try clear c17b1
      try clear c17b2
      try clear c18
      try clear p2
      try clear p6
      obtain ⟨kq, x42_10, rfl, HA, HJ10, HB⟩ := hcut
      cases kq with
      | zero => exact absurd HA.out (by simp [ferrulelaw12_ClauseHolds.j1])
      | succ kj10 =>
       have H := HA.out
       clear HA
       simp only [ferrulelaw12_ClauseHolds.j1] at H
       by_cases c19 : x42_10 = true
       ·subst c19
        have H1 : (some false) = some r := by rw [if_pos rfl] at H; exact H
        clear H
        have H := H1
        clear H1
        obtain rfl := Option.some.inj H
        go_wp2
        go_ret
        exact ⟨by first | rfl | (simp [errW_none, errW_some] <;> rfl) | (simp [*, errW_none, errW_some] <;> rfl), bB⟩
       ·replace c19 := Bool.eq_false_iff.mpr c19
        subst c19
        have H1 : ((clause_Clean.f kj10 l0).bind fun bt106 => (if bt106.2 = true then (some true) else ((clause_Holds.f bt106.1 l1).bind fun t110 => (some (t110 == t102))))) = some r := by rw [if_neg (show ¬ (false = true) by decide)] at H; exact H
        clear H
        have H := H1
        clear H1
        replace H := Option.bind_eq_some_iff.mp H
        obtain ⟨⟨t106, t107⟩, A200, H⟩ := H
        replace H : (if t107 = true then (some true) else ((clause_Holds.f t106 l1).bind fun t110 => (some (t110 == t102)))) = some r := H
        have A20 := Aside0.mk A200
        clear A200
        by_cases c21 : t107 = true
        ·subst c21
         have H1 : (some true) = some r := by rw [if_pos rfl] at H; exact H
         clear H
         have H := H1
         clear H1
         obtain rfl := Option.some.inj H
         go_wp2_with (first | ((with_reducible refine gate_callee (f := 33) rfl ?_); refine goesL_ (some 45) rfl rfl Try.func33 (by kernel_rfl) rfl #[.slice A0 l0.length c0] rfl bM ?_; (with_reducible refine (clause_Clean.calls kj10 _ _ l0 t106 true _ ?side1 ?side2 A20.out).mono ?_); (case side1 => exact sW (Kd.C_below HR0.out HB.out)); (case side2 => exact HC0.out); rintro e w22 ⟨v108, rfl, ho0, hb⟩; refine ⟨_, rfl, ?_⟩; have HO109 := aL ho0 HB; replace HB := aB HB hb; (try clear hb); (try clear hb2); (try clear hk); (try clear hi); (try clear ho0)))
         go_ret
         exact ⟨by first | rfl | (simp [errW_none, errW_some] <;> rfl) | (simp [*, errW_none, errW_some] <;> rfl), bB⟩
        ·replace c21 := Bool.eq_false_iff.mpr c21
         subst c21
         have H1 : ((clause_Holds.f t106 l1).bind fun t110 => (some (t110 == t102))) = some r := by rw [if_neg (show ¬ (false = true) by decide)] at H; exact H
         clear H
         have H := H1
         clear H1
         replace H := Option.bind_eq_some_iff.mp H
         obtain ⟨t110, A230, H⟩ := H
         replace H : (some (t110 == t102)) = some r := H
         have A23 := Aside0.mk A230
         clear A230
         obtain rfl := Option.some.inj H
         go_wp2_with (first | ((with_reducible refine gate_callee (f := 33) rfl ?_); refine goesL_ (some 45) rfl rfl Try.func33 (by kernel_rfl) rfl #[.slice A0 l0.length c0] rfl bM ?_; (with_reducible refine (clause_Clean.calls kj10 _ _ l0 t106 false _ ?side1 ?side2 A20.out).mono ?_); (case side1 => exact sW (Kd.C_below HR0.out HB.out)); (case side2 => exact HC0.out); rintro e w24 ⟨v108, rfl, ho0, hb⟩; refine ⟨_, rfl, ?_⟩; have HO109 := aL ho0 HB; replace HB := aB HB hb; (try clear hb); (try clear hb2); (try clear hk); (try clear hi); (try clear ho0); obtain ⟨Ao25, co25, eo25⟩ := Kd.R_slice HO109.out; subst eo25) | (go_at_call 38; (with_reducible refine (clause_Holds.calls _ _ t106 _ _ l1 t110 _ ?side1 ?side2 ?side3 ?side4 A23.out).mono ?_); (case side1 => exact sW (Kd.R_reads' HO109.out).2.2); (case side2 => exact (Kd.R_reads' HO109.out).2.1); (case side3 => exact sW (Kd.C_below HR1.out HB.out)); (case side4 => exact HC1.out); rintro e w26 ⟨rfl, hb⟩; replace HO109 := aR HO109 hb; replace HB := aB HB hb; (try clear hb); (try clear hb2); (try clear hk); (try clear hi)))
         go_ret
         exact ⟨by first | rfl | (simp [errW_none, errW_some] <;> rfl) | (simp [*, errW_none, errW_some] <;> rfl), bB⟩
 ·replace c4 := Bool.eq_false_iff.mpr c4
  subst c4
  have H1 : (some false) = some r := by rw [if_neg (show ¬ (false = true) by decide)] at H; exact H
  clear H
  have H := H1
  clear H1
  obtain rfl := Option.some.inj H
  go_enter Try.func9, Try.ntmps9
  go_wp2_with (first | ((with_reducible refine gate_callee (f := 30) rfl ?_); refine goesL_ (some 9) rfl rfl Try.func30 (by kernel_rfl) rfl #[] rfl bM ?_; (with_reducible refine (ferrulelaw12_awake.calls k  false _ A3.out).mono ?_); rintro e w27 ⟨rfl, hb⟩; refine ⟨_, rfl, ?_⟩; replace HB := aB HB hb; (try clear hb); (try clear hb2); (try clear hk); (try clear hi)))
  go_ret
  exact ⟨by first | rfl | (simp [errW_none, errW_some] <;> rfl) | (simp [*, errW_none, errW_some] <;> rfl), bB⟩

def ferrulelaw12_ClauseHolds.Pure : Prop := ∀ (l0 : List Int) (l1 : List Bool), l0.length ≤ maxLen → (∀ x ∈ l0, (Lit.int .i64 x).wf = true) → (fun l : (List Bool) => l.length ≤ maxLen ∧ ∀ x ∈ l, (fun _ : Bool => True) x) l1 → ∃ k, ferrulelaw12_ClauseHolds.f k l0 l1 = some true

end Go.Proofs.Ytohgjbkiemnfnaa.X
