-- Written by a program of this session (wip/xp), out of the translation. Not trusted: Lean checks it.
import Derived.Test.YtohgjbkiemnfnaaX0
import Derived.Test.YtohgjbkiemnfnaaXn31
import Derived.Test.YtohgjbkiemnfnaaXn30
import Derived.Test.YtohgjbkiemnfnaaXn32
-- shrunk
namespace Go.Proofs.Ytohgjbkiemnfnaa.X
open Go.RowKit Go.Proofs.YtohgjbkiemnfnaaW.PrintWords Go.Proofs.YtohgjbkiemnfnaaW.PrintLast Go.Proofs.YtohgjbkiemnfnaaW.PrintMore
attribute [local go_sem] Lab.str_gtr Lab.str_leq Lab.str_geq max2_int min2_int max_two min_two max_three min_three max_four min_four   -- for this text's walks alone
set_option linter.unusedVariables false
set_option linter.unusedSimpArgs false

/-! ### ferrulelaw12_ClauseModels: function 7 -/
mutual
def ferrulelaw12_ClauseModels.j0 : Nat → List (List Int) → Int → Bool → Option (Bool)
 | 0, _, _, _ => none
 | k + 1, x0, x1, x22 => if x22 = true then (some true) else (ferrulelaw12_ClauseModels.l0 k x0 x1 0)
def ferrulelaw12_ClauseModels.l0 : Nat → List (List Int) → Int → Int → Option (Bool)
 | 0, _, _, _ => none
 | k + 1, x0, x1, x5 => if x5 < (x0.length : Int) then (if 0 ≤ x5 then (if ((rd_L2 x0 x5).length : Int) > 20 then (some true) else (ferrulelaw12_ClauseModels.l0 k x0 x1 (wrap64 (x5 + 1)))) else (none)) else ((clause_Models.f x0 x1).bind fun t103 => ((ferruleref12_Models.f k x0 x1 ([] : List Bool)).bind fun t106 => (if (t103.length : Int) = (t106.length : Int) then (ferrulelaw12_ClauseModels.l1 k t103 t106 0) else (some false))))
def ferrulelaw12_ClauseModels.l1 : Nat → List (List Bool) → List (List Bool) → Int → Option (Bool)
 | 0, _, _, _ => none
 | k + 1, x6, x7, x8 => if x8 < (x6.length : Int) then (if 0 ≤ x8 then (if x8 < (x7.length : Int) then (if ((rd_L3 x6 x8).length : Int) = ((rd_L3 x7 x8).length : Int) then (ferrulelaw12_ClauseModels.l2 k x6 x7 x8 0) else (some false)) else (none)) else (none)) else (some true)
def ferrulelaw12_ClauseModels.l2 : Nat → List (List Bool) → List (List Bool) → Int → Int → Option (Bool)
 | 0, _, _, _, _ => none
 | k + 1, x6, x7, x8, x9 => if 0 ≤ x8 then (if x8 < (x6.length : Int) then (if x9 < ((rd_L3 x6 x8).length : Int) then (if 0 ≤ x9 then (if x8 < (x7.length : Int) then (if x9 < ((rd_L3 x7 x8).length : Int) then (if ((rdOf false (rd_L3 x6 x8) x9) != (rdOf false (rd_L3 x7 x8) x9)) = true then (some false) else (ferrulelaw12_ClauseModels.l2 k x6 x7 x8 (wrap64 (x9 + 1)))) else (none)) else (none)) else (none)) else (ferrulelaw12_ClauseModels.l1 k x6 x7 (wrap64 (x8 + 1)))) else (none)) else (none)
end
def ferrulelaw12_ClauseModels.f (k : Nat) (l0 : List (List Int)) (a1 : Int) : Option (Bool) := (ferrulelaw12_awake.f k).bind fun t101 => (if t101 = true then (if (l0.length : Int) > 20 then (ferrulelaw12_ClauseModels.j0 k l0 a1 true) else (if a1 > 8 then (ferrulelaw12_ClauseModels.j0 k l0 a1 (decide (a1 ≤ 12))) else (ferrulelaw12_ClauseModels.j0 k l0 a1 false))) else (some false))
theorem ferrulelaw12_ClauseModels.mono_l : ∀ k, (∀ y0 y1 y2, LeO (ferrulelaw12_ClauseModels.j0 k y0 y1 y2) (ferrulelaw12_ClauseModels.j0 (k + 1) y0 y1 y2)) ∧ (∀ y0 y1 y2, LeO (ferrulelaw12_ClauseModels.l0 k y0 y1 y2) (ferrulelaw12_ClauseModels.l0 (k + 1) y0 y1 y2)) ∧ (∀ y0 y1 y2, LeO (ferrulelaw12_ClauseModels.l1 k y0 y1 y2) (ferrulelaw12_ClauseModels.l1 (k + 1) y0 y1 y2)) ∧ (∀ y0 y1 y2 y3, LeO (ferrulelaw12_ClauseModels.l2 k y0 y1 y2 y3) (ferrulelaw12_ClauseModels.l2 (k + 1) y0 y1 y2 y3))
 | 0 => ⟨fun _ _ _ r h => by simp [ferrulelaw12_ClauseModels.j0] at h, fun _ _ _ r h => by simp [ferrulelaw12_ClauseModels.l0] at h, fun _ _ _ r h => by simp [ferrulelaw12_ClauseModels.l1] at h, fun _ _ _ _ r h => by simp [ferrulelaw12_ClauseModels.l2] at h⟩
 | k + 1 => by
  obtain ⟨ih0, ih1, ih2, ih3⟩ := ferrulelaw12_ClauseModels.mono_l k
  refine ⟨?_, ?_, ?_, ?_⟩
  ·intro y0 y1 y2
   unfold ferrulelaw12_ClauseModels.j0
   repeat' first
   | (with_reducible exact ih0 _ _ _)
   | (with_reducible exact ih1 _ _ _)
   | (with_reducible exact ih2 _ _ _)
   | (with_reducible exact ih3 _ _ _ _)
   | (with_reducible exact ferrulelaw12_awake.mono _)
   | (with_reducible exact ferruleref12_Models.mono _ _ _ _)
   | (with_reducible exact LeO.refl _)
   | (with_reducible exact LeO.none _)
   | (with_reducible refine LeO.ite ?_ ?_)
   | (with_reducible refine LeO.bind ?_ (fun _ => ?_))
   | exact ih0 _ _ _
   | exact ih1 _ _ _
   | exact ih2 _ _ _
   | exact ih3 _ _ _ _
   | exact ferrulelaw12_awake.mono _
   | exact ferruleref12_Models.mono _ _ _ _
   | exact LeO.none _
   | refine LeO.ite ?_ ?_
   | refine LeO.bind ?_ (fun _ => ?_)
  ·intro y0 y1 y2
   unfold ferrulelaw12_ClauseModels.l0
   repeat' first
   | (with_reducible exact ih0 _ _ _)
   | (with_reducible exact ih1 _ _ _)
   | (with_reducible exact ih2 _ _ _)
   | (with_reducible exact ih3 _ _ _ _)
   | (with_reducible exact ferrulelaw12_awake.mono _)
   | (with_reducible exact ferruleref12_Models.mono _ _ _ _)
   | (with_reducible exact LeO.refl _)
   | (with_reducible exact LeO.none _)
   | (with_reducible refine LeO.ite ?_ ?_)
   | (with_reducible refine LeO.bind ?_ (fun _ => ?_))
   | exact ih0 _ _ _
   | exact ih1 _ _ _
   | exact ih2 _ _ _
   | exact ih3 _ _ _ _
   | exact ferrulelaw12_awake.mono _
   | exact ferruleref12_Models.mono _ _ _ _
   | exact LeO.none _
   | refine LeO.ite ?_ ?_
   | refine LeO.bind ?_ (fun _ => ?_)
  ·intro y0 y1 y2
   unfold ferrulelaw12_ClauseModels.l1
   repeat' first
   | (with_reducible exact ih0 _ _ _)
   | (with_reducible exact ih1 _ _ _)
   | (with_reducible exact ih2 _ _ _)
   | (with_reducible exact ih3 _ _ _ _)
   | (with_reducible exact ferrulelaw12_awake.mono _)
   | (with_reducible exact ferruleref12_Models.mono _ _ _ _)
   | (with_reducible exact LeO.refl _)
   | (with_reducible exact LeO.none _)
   | (with_reducible refine LeO.ite ?_ ?_)
   | (with_reducible refine LeO.bind ?_ (fun _ => ?_))
   | exact ih0 _ _ _
   | exact ih1 _ _ _
   | exact ih2 _ _ _
   | exact ih3 _ _ _ _
   | exact ferrulelaw12_awake.mono _
   | exact ferruleref12_Models.mono _ _ _ _
   | exact LeO.none _
   | refine LeO.ite ?_ ?_
   | refine LeO.bind ?_ (fun _ => ?_)
  ·intro y0 y1 y2 y3
   unfold ferrulelaw12_ClauseModels.l2
   repeat' first
   | (with_reducible exact ih0 _ _ _)
   | (with_reducible exact ih1 _ _ _)
   | (with_reducible exact ih2 _ _ _)
   | (with_reducible exact ih3 _ _ _ _)
   | (with_reducible exact ferrulelaw12_awake.mono _)
   | (with_reducible exact ferruleref12_Models.mono _ _ _ _)
   | (with_reducible exact LeO.refl _)
   | (with_reducible exact LeO.none _)
   | (with_reducible refine LeO.ite ?_ ?_)
   | (with_reducible refine LeO.bind ?_ (fun _ => ?_))
   | exact ih0 _ _ _
   | exact ih1 _ _ _
   | exact ih2 _ _ _
   | exact ih3 _ _ _ _
   | exact ferrulelaw12_awake.mono _
   | exact ferruleref12_Models.mono _ _ _ _
   | exact LeO.none _
   | refine LeO.ite ?_ ?_
   | refine LeO.bind ?_ (fun _ => ?_)
theorem ferrulelaw12_ClauseModels.mono : ∀ a0 a1 k, LeO (ferrulelaw12_ClauseModels.f k a0 a1) (ferrulelaw12_ClauseModels.f (k + 1) a0 a1) := by
 intro a0 a1 k
 obtain ⟨ih0, ih1, ih2, ih3⟩ := ferrulelaw12_ClauseModels.mono_l k
 unfold ferrulelaw12_ClauseModels.f
 repeat' first
   | (with_reducible exact ih0 _ _ _)
   | (with_reducible exact ih1 _ _ _)
   | (with_reducible exact ih2 _ _ _)
   | (with_reducible exact ih3 _ _ _ _)
   | (with_reducible exact ferrulelaw12_awake.mono _)
   | (with_reducible exact ferruleref12_Models.mono _ _ _ _)
   | (with_reducible exact LeO.refl _)
   | (with_reducible exact LeO.none _)
   | (with_reducible refine LeO.ite ?_ ?_)
   | (with_reducible refine LeO.bind ?_ (fun _ => ?_))
   | exact ih0 _ _ _
   | exact ih1 _ _ _
   | exact ih2 _ _ _
   | exact ih3 _ _ _ _
   | exact ferrulelaw12_awake.mono _
   | exact ferruleref12_Models.mono _ _ _ _
   | exact LeO.none _
   | refine LeO.ite ?_ ?_
   | refine LeO.bind ?_ (fun _ => ?_)
set_option maxHeartbeats 8000000 in
set_option maxRecDepth 100000 in
theorem ferrulelaw12_ClauseModels.calls (k : Nat) (A0 : Option Addr) (c0 : Nat) (l0 : List (List Int)) (a1 : Int) (r : Bool) (w : World) (hr0 : Kd.C (Kd.slice 3 (Kd.int .i64)) w A0 l0.length l0) (hc0 : l0.length ≤ c0) (h : ferrulelaw12_ClauseModels.f k l0 a1 = some r) :
  Calls Try.prog 7 #[.slice A0 l0.length c0, .int .i64 a1] w fun e w' => e = .returned (.bool r) ∧ Below w.heap.size w w' := by
 have HR0 := Aside0.mk hr0
 have HC0 := Aside0.mk hc0
 clear hr0 hc0
 have HB := Aside0.mk (Below.refl w.heap.size w)
 have H : ((ferrulelaw12_awake.f k).bind fun t101 => (if t101 = true then (if (l0.length : Int) > 20 then (ferrulelaw12_ClauseModels.j0 k l0 a1 true) else (if a1 > 8 then (ferrulelaw12_ClauseModels.j0 k l0 a1 (decide (a1 ≤ 12))) else (ferrulelaw12_ClauseModels.j0 k l0 a1 false))) else (some false))) = some r := h
 clear h
 replace H := Option.bind_eq_some_iff.mp H
 obtain ⟨t101, A30, H⟩ := H
 replace H : (if t101 = true then (if (l0.length : Int) > 20 then (ferrulelaw12_ClauseModels.j0 k l0 a1 true) else (if a1 > 8 then (ferrulelaw12_ClauseModels.j0 k l0 a1 (decide (a1 ≤ 12))) else (ferrulelaw12_ClauseModels.j0 k l0 a1 false))) else (some false)) = some r := H
 have A3 := Aside0.mk A30
 clear A30
 by_cases c4 : t101 = true
 ·subst c4
  have H1 : (if (l0.length : Int) > 20 then (ferrulelaw12_ClauseModels.j0 k l0 a1 true) else (if a1 > 8 then (ferrulelaw12_ClauseModels.j0 k l0 a1 (decide (a1 ≤ 12))) else (ferrulelaw12_ClauseModels.j0 k l0 a1 false))) = some r := by rw [if_pos rfl] at H; exact H
  clear H
  have H := H1
  clear H1
  have HC5 := Aside0.mk H
  clear H
  go_enter Try.func7, Try.ntmps7
  go_upto_region 3 with (first | (go_at_call 30; (with_reducible refine (ferrulelaw12_awake.calls k  true _ A3.out).mono ?_); rintro e w6 ⟨rfl, hb⟩; replace HB := aB HB hb; (try clear hb); (try clear hb2); (try clear hk); (try clear hi)))
  repeat (go_quiet (first | (go_at_call 30; (with_reducible refine (ferrulelaw12_awake.calls k  true _ A3.out).mono ?_); rintro e w6 ⟨rfl, hb⟩; replace HB := aB HB hb; (try clear hb); (try clear hb2); (try clear hk); (try clear hi))); go_upto_region 3 with (first | (go_at_call 30; (with_reducible refine (ferrulelaw12_awake.calls k  true _ A3.out).mono ?_); rintro e w6 ⟨rfl, hb⟩; replace HB := aB HB hb; (try clear hb); (try clear hb2); (try clear hk); (try clear hi))))
  (try simp only [Act.put, List.setIfInBounds_toArray, List.set_cons_zero, List.set_cons_succ])
  go_cut [22] (fun v22 wc => ∃ (kq : Nat) (x22_4 : Bool), v22 = .bool x22_4 ∧ Aside0 (ferrulelaw12_ClauseModels.j0 kq l0 a1 x22_4 = some r) ∧ Aside0 (kq ≤ k) ∧ Aside0 (Below w.heap.size w wc))
  case first =>
   have H := HC5.out
   clear HC5
   by_cases c7 : (l0.length : Int) > 20
   ·rw [if_pos c7] at H
    have c7b0 : decide (20 < (l0.length : Int)) = true := decide_eq_true c7
    have c7b1 : decide (20 < l0.length) = true := decide_eq_true (by omega)
    clear c7
    (first | rw [c7b0] | (simp only [i64_w, i32_w]; rw [c7b0]) | skip)
    have H' := Aside0.mk H
    clear H
    go_wp2
    repeat (go_quiet (fail); try go_wp2)
    go_meet
    case rel => exact ⟨_, (true), bS, H', ⟨by first | omega | exact Nat.le_refl _⟩, ⟨bB⟩⟩
   ·rw [if_neg c7] at H
    have c7b0 : decide (20 < (l0.length : Int)) = false := decide_eq_false c7
    have c7b1 : decide (20 < l0.length) = false := decide_eq_false (by omega)
    clear c7
    (first | rw [c7b0] | (simp only [i64_w, i32_w]; rw [c7b0]) | skip)
    by_cases c8 : a1 > 8
    ·rw [if_pos c8] at H
     have c8b0 : decide (8 < a1) = true := decide_eq_true c8
     clear c8
     have H' := Aside0.mk H
     clear H
     go_wp2
     repeat (go_quiet (fail); try go_wp2)
     go_meet
     case rel => exact ⟨_, (decide (a1 ≤ 12)), bS, H', ⟨by first | omega | exact Nat.le_refl _⟩, ⟨bB⟩⟩
    ·rw [if_neg c8] at H
     have c8b0 : decide (8 < a1) = false := decide_eq_false c8
     clear c8
     have H' := Aside0.mk H
     clear H
     go_wp2
     repeat (go_quiet (fail); try go_wp2)
     go_meet
     case rel => exact ⟨_, (false), bS, H', ⟨by first | omega | exact Nat.le_refl _⟩, ⟨bB⟩⟩
  case rest =>
   clear HC5
   try clear p2
   try clear c4
   try clear p6
   try clear c7
   try clear c7b0
   try clear c7b1
   try clear c8
   try clear c8b0
   obtain ⟨kq, x22_4, rfl, HA, HJ4, HB⟩ := hcut
   cases kq with
   | zero => exact absurd HA.out (by simp [ferrulelaw12_ClauseModels.j0])
   | succ kj4 =>
    have H := HA.out
    clear HA
    simp only [ferrulelaw12_ClauseModels.j0] at H
    by_cases c9 : x22_4 = true
    ·subst c9
     have H1 : (some true) = some r := by rw [if_pos rfl] at H; exact H
     clear H
     have H := H1
     clear H1
     obtain rfl := Option.some.inj H
     go_wp2
     repeat (go_quiet (fail); try go_wp2)
     go_ret
     exact ⟨by first | rfl | (simp [errW_none, errW_some] <;> rfl) | (simp [*, errW_none, errW_some] <;> rfl), bB⟩
    ·replace c9 := Bool.eq_false_iff.mpr c9
     subst c9
     have H1 : (ferrulelaw12_ClauseModels.l0 kj4 l0 a1 0) = some r := by rw [if_neg (show ¬ (false = true) by decide)] at H; exact H
     clear H
     have H := H1
     clear H1
     have H' := Aside0.mk H
     clear H
     go_wp2
     repeat (go_quiet (fail); try go_wp2)
     go_loopg [5] kj4 (fun kq v5 w' => ∃ (x5_2 : Int), v5 = .int .i64 x5_2 ∧ Aside0 (ferrulelaw12_ClauseModels.l0 kq l0 a1 x5_2 = some r) ∧ Aside0 (kq ≤ kj4) ∧ Aside0 (Below w.heap.size w w'))
     case atStart => exact ⟨(0), bS, H', ⟨Nat.le_refl _⟩, ⟨bB⟩⟩
     case round =>
      clear H'
      try clear p2
      try clear c4
      try clear p6
      try clear c7
      try clear c7b0
      try clear c7b1
      try clear c8
      try clear c8b0
      try clear c9
      try clear p2
      try clear p6
      obtain ⟨x5_2, rfl, HA, HK2, HB⟩ := hrel
      cases gk with
      | zero => exact absurd HA.out (by simp [ferrulelaw12_ClauseModels.l0])
      | succ k2 =>
       have H := HA.out
       clear HA
       simp only [ferrulelaw12_ClauseModels.l0] at H
       by_cases c10 : x5_2 < (l0.length : Int)
       ·rw [if_pos c10] at H
        have c10b0 : decide (x5_2 < (l0.length : Int)) = true := decide_eq_true c10
        clear c10
        by_cases c11 : 0 ≤ x5_2
        ·rw [if_pos c11] at H
         have c11b0 : decide (0 ≤ x5_2) = true := decide_eq_true c11
         clear c11
         by_cases c12 : ((rd_L2 l0 x5_2).length : Int) > 20
         ·rw [if_pos c12] at H
          have c12b0 : decide (20 < ((rd_L2 l0 x5_2).length : Int)) = true := decide_eq_true c12
          have c12b1 : decide (20 < (rd_L2 l0 x5_2).length) = true := decide_eq_true (by omega)
          clear c12
          obtain rfl := Option.some.inj H
          have p102 : 0 ≤ (x5_2 : Int) := oD
          have q102 : x5_2 < (l0.length : Int) := oD
          obtain ⟨ad102, A102_0, c102_0, e102, hx102_0, hl102_0, hi102_0⟩ := at_L2 HR0.out x5_2 p102 q102
          cases e102
          replace hx102_0 := (HB.out.cell (World.block_lt_of_cell? w _ hx102_0)).trans hx102_0
          have HR102_0 := Aside0.mk hi102_0
          have HC102_0 := Aside0.mk hl102_0
          clear hi102_0 hl102_0
          replace p102 := eq_true p102
          replace q102 := eq_true q102
          go_wp2
          repeat (go_quiet (fail); try go_wp2)
          go_ret
          exact ⟨by first | rfl | (simp [errW_none, errW_some] <;> rfl) | (simp [*, errW_none, errW_some] <;> rfl), bB⟩
         ·rw [if_neg c12] at H
          have c12b0 : decide (20 < ((rd_L2 l0 x5_2).length : Int)) = false := decide_eq_false c12
          have c12b1 : decide (20 < (rd_L2 l0 x5_2).length) = false := decide_eq_false (by omega)
          clear c12
          have H' := Aside0.mk H
          clear H
          have p102 : 0 ≤ (x5_2 : Int) := oD
          have q102 : x5_2 < (l0.length : Int) := oD
          obtain ⟨ad102, A102_0, c102_0, e102, hx102_0, hl102_0, hi102_0⟩ := at_L2 HR0.out x5_2 p102 q102
          cases e102
          replace hx102_0 := (HB.out.cell (World.block_lt_of_cell? w _ hx102_0)).trans hx102_0
          have HR102_0 := Aside0.mk hi102_0
          have HC102_0 := Aside0.mk hl102_0
          clear hi102_0 hl102_0
          replace p102 := eq_true p102
          replace q102 := eq_true q102
          go_wp2
          repeat (go_quiet (fail); try go_wp2)
          go_roundg k2
          case measure => have := HJ4.out; have := HK2.out; omega
          case rel => exact ⟨(wrap64 (x5_2 + 1)), bS, H', ⟨by have := HJ4.out; have := HK2.out; omega⟩, ⟨bB⟩⟩
        ·rw [if_neg c11] at H
         exact absurd H (by simp)
       ·rw [if_neg c10] at H
        have c10b0 : decide (x5_2 < (l0.length : Int)) = false := decide_eq_false c10
        clear c10
        replace H := Option.bind_eq_some_iff.mp H
        obtain ⟨t103, A130, H⟩ := H
        replace H : ((ferruleref12_Models.f k2 l0 a1 ([] : List Bool)).bind fun t106 => (if (t103.length : Int) = (t106.length : Int) then (ferrulelaw12_ClauseModels.l1 k2 t103 t106 0) else (some false))) = some r := H
        have A13 := Aside0.mk A130
        clear A130
        replace H := Option.bind_eq_some_iff.mp H
        obtain ⟨t106, A140, H⟩ := H
        replace H : (if (t103.length : Int) = (t106.length : Int) then (ferrulelaw12_ClauseModels.l1 k2 t103 t106 0) else (some false)) = some r := H
        have A14 := Aside0.mk A140
        clear A140
        by_cases c15 : (t103.length : Int) = (t106.length : Int)
        ·rw [if_pos c15] at H
         have c15b0 : ((t103.length : Int) == (t106.length : Int)) = true := beq_iff_eq.mpr c15
         have c15b1 : ((t103.length : Int) != (t106.length : Int)) = false := bne_eq_false_iff_eq.mpr c15
         have c15b2 : (t103.length == t106.length) = true := by first | simpa using c15 | (simp at c15 ⊢; omega)
         clear c15
         have H' := Aside0.mk H
         clear H
         go_wp2_with (first | (go_at_call 31; (with_reducible refine (clause_Models.calls _ _ l0 a1 t103 _ ?side1 ?side2 A13.out).mono ?_); (case side1 => exact sW (Kd.C_below HR0.out HB.out)); (case side2 => exact HC0.out); rintro e w16 ⟨v104, rfl, ho0, hb⟩; have HO105 := Aside0.mk (Kd.N_lower (Kd.N_mono (ok' := fun k_ => True) ho0 (fun k_ hk_ => trivial)) (below_size bB)); replace HB := aB HB hb; (try clear hb); (try clear hb2); (try clear hk); (try clear hi); (try clear ho0)) | (go_at_call 32; (refine (ferruleref12_Models.calls k2 _ _ l0 a1 _ _ ([] : List Bool) t106 _ ?side1 ?side2 ?side3 ?side4 A14.out).mono ?_); (case side1 => exact sW (Kd.C_below HR0.out HB.out)); (case side2 => exact HC0.out); (case side3 => exact Kd.C_nil _ _); (case side4 => exact Nat.le_refl _); rintro e w17 ⟨v107, rfl, ho0, hb⟩; have HO108 := Aside0.mk (Kd.N_lower (Kd.N_mono (ok' := fun k_ => some k_ ≠ (v104 : Value).ownBlock) ho0 (fun k_ hk_ => (Kd.fresh' (Kd.N_lt (by (with_reducible repeat (first | apply Kd.N_alloc | apply Kd.N_drewN | apply Kd.N_drew)); exact HO105.out)) k_ hk_))) (below_size bB)); replace HO105 := Aside0.mk (Kd.N_elder' (by (with_reducible repeat (first | apply Kd.N_alloc | apply Kd.N_drewN | apply Kd.N_drew)); exact HO105.out) (Kd.N_base ho0) hb); replace HB := aB HB hb; (try clear hb); (try clear hb2); (try clear hk); (try clear hi); (try clear ho0); obtain ⟨Ao18, co18, eo18⟩ := Kd.N_slice HO105.out; subst eo18; obtain ⟨Ao19, co19, eo19⟩ := Kd.N_slice HO108.out; subst eo19))
         repeat (go_quiet (first | (go_at_call 31; (with_reducible refine (clause_Models.calls _ _ l0 a1 t103 _ ?side1 ?side2 A13.out).mono ?_); (case side1 => exact sW (Kd.C_below HR0.out HB.out)); (case side2 => exact HC0.out); rintro e w16 ⟨v104, rfl, ho0, hb⟩; have HO105 := Aside0.mk (Kd.N_lower (Kd.N_mono (ok' := fun k_ => True) ho0 (fun k_ hk_ => trivial)) (below_size bB)); replace HB := aB HB hb; (try clear hb); (try clear hb2); (try clear hk); (try clear hi); (try clear ho0)) | (go_at_call 32; (refine (ferruleref12_Models.calls k2 _ _ l0 a1 _ _ ([] : List Bool) t106 _ ?side1 ?side2 ?side3 ?side4 A14.out).mono ?_); (case side1 => exact sW (Kd.C_below HR0.out HB.out)); (case side2 => exact HC0.out); (case side3 => exact Kd.C_nil _ _); (case side4 => exact Nat.le_refl _); rintro e w17 ⟨v107, rfl, ho0, hb⟩; have HO108 := Aside0.mk (Kd.N_lower (Kd.N_mono (ok' := fun k_ => some k_ ≠ (v104 : Value).ownBlock) ho0 (fun k_ hk_ => (Kd.fresh' (Kd.N_lt (by (with_reducible repeat (first | apply Kd.N_alloc | apply Kd.N_drewN | apply Kd.N_drew)); exact HO105.out)) k_ hk_))) (below_size bB)); replace HO105 := Aside0.mk (Kd.N_elder' (by (with_reducible repeat (first | apply Kd.N_alloc | apply Kd.N_drewN | apply Kd.N_drew)); exact HO105.out) (Kd.N_base ho0) hb); replace HB := aB HB hb; (try clear hb); (try clear hb2); (try clear hk); (try clear hi); (try clear ho0); obtain ⟨Ao18, co18, eo18⟩ := Kd.N_slice HO105.out; subst eo18; obtain ⟨Ao19, co19, eo19⟩ := Kd.N_slice HO108.out; subst eo19)); try go_wp2_with (first | (go_at_call 31; (with_reducible refine (clause_Models.calls _ _ l0 a1 t103 _ ?side1 ?side2 A13.out).mono ?_); (case side1 => exact sW (Kd.C_below HR0.out HB.out)); (case side2 => exact HC0.out); rintro e w16 ⟨v104, rfl, ho0, hb⟩; have HO105 := Aside0.mk (Kd.N_lower (Kd.N_mono (ok' := fun k_ => True) ho0 (fun k_ hk_ => trivial)) (below_size bB)); replace HB := aB HB hb; (try clear hb); (try clear hb2); (try clear hk); (try clear hi); (try clear ho0)) | (go_at_call 32; (refine (ferruleref12_Models.calls k2 _ _ l0 a1 _ _ ([] : List Bool) t106 _ ?side1 ?side2 ?side3 ?side4 A14.out).mono ?_); (case side1 => exact sW (Kd.C_below HR0.out HB.out)); (case side2 => exact HC0.out); (case side3 => exact Kd.C_nil _ _); (case side4 => exact Nat.le_refl _); rintro e w17 ⟨v107, rfl, ho0, hb⟩; have HO108 := Aside0.mk (Kd.N_lower (Kd.N_mono (ok' := fun k_ => some k_ ≠ (v104 : Value).ownBlock) ho0 (fun k_ hk_ => (Kd.fresh' (Kd.N_lt (by (with_reducible repeat (first | apply Kd.N_alloc | apply Kd.N_drewN | apply Kd.N_drew)); exact HO105.out)) k_ hk_))) (below_size bB)); replace HO105 := Aside0.mk (Kd.N_elder' (by (with_reducible repeat (first | apply Kd.N_alloc | apply Kd.N_drewN | apply Kd.N_drew)); exact HO105.out) (Kd.N_base ho0) hb); replace HB := aB HB hb; (try clear hb); (try clear hb2); (try clear hk); (try clear hi); (try clear ho0); obtain ⟨Ao18, co18, eo18⟩ := Kd.N_slice HO105.out; subst eo18; obtain ⟨Ao19, co19, eo19⟩ := Kd.N_slice HO108.out; subst eo19)))
         go_loopg [8] k2 (fun kq v8 w' => ∃ (x8_3 : Int), v8 = .int .i64 x8_3 ∧ Aside0 (ferrulelaw12_ClauseModels.l1 kq t103 t106 x8_3 = some r) ∧ Aside0 (kq ≤ k2) ∧ Aside0 (Kd.N (Kd.slice 4 Kd.bool) 38 w' w.heap.size (fun k_ => some k_ ≠ ob Ao19 t106 co19) (.slice Ao18 t103.length co18) t103) ∧ Aside0 (Kd.N (Kd.slice 4 Kd.bool) 38 w' w.heap.size (fun k_ => some k_ ≠ ob Ao18 t103 co18) (.slice Ao19 t106.length co19) t106) ∧ Aside0 (Below w.heap.size w w'))
         case atStart => exact ⟨(0), bS, H', ⟨Nat.le_refl _⟩, ⟨by (with_reducible repeat (first | apply Kd.N_alloc | apply Kd.N_drewN | apply Kd.N_drew)); exact Kd.N_mono HO105.out (fun _ hk => hk.2)⟩, ⟨by (with_reducible repeat (first | apply Kd.N_alloc | apply Kd.N_drewN | apply Kd.N_drew)); exact HO108.out⟩, ⟨bB⟩⟩
         case round =>
          clear H'
          try clear c1
          try clear p1
          try clear q1
          try clear hx1
          try clear p2
          try clear c4
          try clear p6
          try clear c7
          try clear c7b0
          try clear c7b1
          try clear c8
          try clear c8b0
          try clear c9
          try clear c10
          try clear c10b0
          try clear p10
          try clear q10
          try clear hx10
          try clear c11
          try clear c11b0
          try clear c12
          try clear c12b0
          try clear c12b1
          try clear c15
          try clear c15b0
          try clear c15b1
          try clear c15b2
          try clear hx102_0
          try clear p102
          try clear p2
          try clear p6
          try clear q102
          obtain ⟨x8_3, rfl, HA, HK3, HO_6, HO_7, HB⟩ := hrel
          cases gk with
          | zero => exact absurd HA.out (by simp [ferrulelaw12_ClauseModels.l1])
          | succ k3 =>
           have H := HA.out
           clear HA
           simp only [ferrulelaw12_ClauseModels.l1] at H
           by_cases c20 : x8_3 < (t103.length : Int)
           ·rw [if_pos c20] at H
            have c20b0 : decide (x8_3 < (t103.length : Int)) = true := decide_eq_true c20
            clear c20
            by_cases c21 : 0 ≤ x8_3
            ·rw [if_pos c21] at H
             have c21b0 : decide (0 ≤ x8_3) = true := decide_eq_true c21
             clear c21
             by_cases c22 : x8_3 < (t106.length : Int)
             ·rw [if_pos c22] at H
              have c22b0 : decide (x8_3 < (t106.length : Int)) = true := decide_eq_true c22
              clear c22
              by_cases c23 : ((rd_L3 t103 x8_3).length : Int) = ((rd_L3 t106 x8_3).length : Int)
              ·rw [if_pos c23] at H
               have c23b0 : (((rd_L3 t103 x8_3).length : Int) == ((rd_L3 t106 x8_3).length : Int)) = true := beq_iff_eq.mpr c23
               have c23b1 : (((rd_L3 t103 x8_3).length : Int) != ((rd_L3 t106 x8_3).length : Int)) = false := bne_eq_false_iff_eq.mpr c23
               have c23b2 : ((rd_L3 t103 x8_3).length == (rd_L3 t106 x8_3).length) = true := by first | simpa using c23 | (simp at c23 ⊢; omega)
               clear c23
               have H' := Aside0.mk H
               clear H
               have p109 : 0 ≤ (x8_3 : Int) := oD
               have q109 : x8_3 < (t103.length : Int) := oD
               obtain ⟨ad109, A109_0, c109_0, e109, hx109_0, hl109_0, hi109_0⟩ := at_L3 (Kd.N_reads' HO_6.out).2.2 x8_3 p109 q109
               cases e109
               obtain ⟨ce109, hce109, hMe109, hcc109⟩ := Kd.N_get HO_6.out [] x8_3 p109 (by first | exact q109 | exact oD | (have e_ := (Kd.N_reads' HO_6.out).1; omega))
               obtain ⟨ua109_0, uc109_0, rfl, ul109_0, ge109_0⟩ := Kd.FK_slice_open hMe109
               have hv109_0 := hcc109 0 _ rfl
               rw [Nat.add_zero, show ((Kd.slice 4 Kd.bool)).sz = 1 from rfl, Nat.mul_one] at hv109_0
               replace hv109_0 := Option.some.inj (hv109_0.symm.trans hx109_0)
               injection hv109_0 with hva_ hvn_ hvc_
               rw [hva_] at ge109_0
               rw [hvc_] at ul109_0
               have HL109_0 := Aside0.mk (show Kd.V Kd.bool 4 _ w.heap.size _ _ (rd_L3 t103 x8_3) from Kd.V_mk ul109_0 ge109_0)
               clear hva_ hvn_ hvc_ ge109_0 ul109_0
               clear hcc109 hce109
               have HR109_0 := Aside0.mk hi109_0
               have HC109_0 := Aside0.mk hl109_0
               clear hi109_0 hl109_0
               replace p109 := eq_true p109
               replace q109 := eq_true q109
               have p110 : 0 ≤ (x8_3 : Int) := oD
               have q110 : x8_3 < (t106.length : Int) := oD
               obtain ⟨ad110, A110_0, c110_0, e110, hx110_0, hl110_0, hi110_0⟩ := at_L3 (Kd.N_reads' HO_7.out).2.2 x8_3 p110 q110
               cases e110
               obtain ⟨ce110, hce110, hMe110, hcc110⟩ := Kd.N_get HO_7.out [] x8_3 p110 (by first | exact q110 | exact oD | (have e_ := (Kd.N_reads' HO_7.out).1; omega))
               obtain ⟨ua110_0, uc110_0, rfl, ul110_0, ge110_0⟩ := Kd.FK_slice_open hMe110
               have hv110_0 := hcc110 0 _ rfl
               rw [Nat.add_zero, show ((Kd.slice 4 Kd.bool)).sz = 1 from rfl, Nat.mul_one] at hv110_0
               replace hv110_0 := Option.some.inj (hv110_0.symm.trans hx110_0)
               injection hv110_0 with hva_ hvn_ hvc_
               rw [hva_] at ge110_0
               rw [hvc_] at ul110_0
               have HL110_0 := Aside0.mk (show Kd.V Kd.bool 4 _ w.heap.size _ _ (rd_L3 t106 x8_3) from Kd.V_mk ul110_0 ge110_0)
               clear hva_ hvn_ hvc_ ge110_0 ul110_0
               clear hcc110 hce110
               have HR110_0 := Aside0.mk hi110_0
               have HC110_0 := Aside0.mk hl110_0
               clear hi110_0 hl110_0
               replace p110 := eq_true p110
               replace q110 := eq_true q110
               go_wp2
               repeat (go_quiet (fail); try go_wp2)
               go_loopg [9] k3 (fun kq v9 w' => ∃ (x9_4 : Int), v9 = .int .i64 x9_4 ∧ Aside0 (ferrulelaw12_ClauseModels.l2 kq t103 t106 x8_3 x9_4 = some r) ∧ Aside0 (kq ≤ k3) ∧ Aside0 (Kd.N (Kd.slice 4 Kd.bool) 38 w' w.heap.size (fun k_ => some k_ ≠ ((.slice (some ad110) t106.length co19) : Value).ownBlock) (.slice (some ad109) t103.length co18) t103) ∧ Aside0 (Kd.N (Kd.slice 4 Kd.bool) 38 w' w.heap.size (fun k_ => some k_ ≠ ((.slice (some ad109) t103.length co18) : Value).ownBlock) (.slice (some ad110) t106.length co19) t106) ∧ Aside0 (Kd.C Kd.bool w' A109_0 (rd_L3 t103 x8_3).length (rd_L3 t103 x8_3)) ∧ Aside0 (Kd.C Kd.bool w' A110_0 (rd_L3 t106 x8_3).length (rd_L3 t106 x8_3)) ∧ Aside0 (Below w.heap.size w w'))
               case atStart => exact ⟨(0), bS, H', ⟨Nat.le_refl _⟩, ⟨by (with_reducible repeat (first | apply Kd.N_alloc | apply Kd.N_drewN | apply Kd.N_drew)); exact HO_6.out⟩, ⟨by (with_reducible repeat (first | apply Kd.N_alloc | apply Kd.N_drewN | apply Kd.N_drew)); exact HO_7.out⟩, ⟨by repeat (first | (with_reducible exact HR109_0.out) | (with_reducible refine Kd.C_alloc ?_ _) | (with_reducible refine Kd.C_drewN ?_ _) | (with_reducible refine Kd.C_drew ?_) | exact HR109_0.out)⟩, ⟨by repeat (first | (with_reducible exact HR110_0.out) | (with_reducible refine Kd.C_alloc ?_ _) | (with_reducible refine Kd.C_drewN ?_ _) | (with_reducible refine Kd.C_drew ?_) | exact HR110_0.out)⟩, ⟨bB⟩⟩
               case round =>
                clear H'
                try clear c1
                try clear p1
                try clear q1
                try clear hx1
                try clear c2
                try clear p2
                try clear c4
                try clear p6
                try clear c7
                try clear c7b0
                try clear c7b1
                try clear c8
                try clear c8b0
                try clear c9
                try clear c10
                try clear c10b0
                try clear p10
                try clear q10
                try clear hx10
                try clear c11
                try clear c11b0
                try clear p11
                try clear q11
                try clear hx11
                try clear c12
                try clear c12b0
                try clear c12b1
                try clear c15
                try clear c15b0
                try clear c15b1
                try clear c15b2
                try clear c20
                try clear c20b0
                try clear c21
                try clear c21b0
                try clear c22
                try clear c22b0
                try clear c23
                try clear c23b0
                try clear c23b1
                try clear c23b2
                try clear hx102_0
                try clear hx109_0
                try clear hx110_0
                try clear p1
                try clear p10
                try clear p102
                try clear p109
                try clear p110
                try clear p2
                try clear p6
                try clear q1
                try clear q10
                try clear q102
                try clear q109
                try clear q110
                obtain ⟨x9_4, rfl, HA, HK4, HO_6, HO_7, HR109_0, HR110_0, HB⟩ := hrel
                cases gk with
                | zero => exact absurd HA.out (by simp [ferrulelaw12_ClauseModels.l2])
                | succ k4 =>
                 have H := HA.out
                 clear HA
                 simp only [ferrulelaw12_ClauseModels.l2] at H
                 by_cases c24 : 0 ≤ x8_3
                 ·rw [if_pos c24] at H
                  have c24b0 : decide (0 ≤ x8_3) = true := decide_eq_true c24
                  clear c24
                  by_cases c25 : x8_3 < (t103.length : Int)
                  ·rw [if_pos c25] at H
                   have c25b0 : decide (x8_3 < (t103.length : Int)) = true := decide_eq_true c25
                   clear c25
                   by_cases c26 : x9_4 < ((rd_L3 t103 x8_3).length : Int)
                   ·rw [if_pos c26] at H
                    have c26b0 : decide (x9_4 < ((rd_L3 t103 x8_3).length : Int)) = true := decide_eq_true c26
                    clear c26
                    by_cases c27 : 0 ≤ x9_4
                    ·rw [if_pos c27] at H
                     have c27b0 : decide (0 ≤ x9_4) = true := decide_eq_true c27
                     clear c27
                     by_cases c28 : x8_3 < (t106.length : Int)
                     ·rw [if_pos c28] at H
                      have c28b0 : decide (x8_3 < (t106.length : Int)) = true := decide_eq_true c28
                      clear c28
                      by_cases c29 : x9_4 < ((rd_L3 t106 x8_3).length : Int)
                      ·rw [if_pos c29] at H
                       have c29b0 : decide (x9_4 < ((rd_L3 t106 x8_3).length : Int)) = true := decide_eq_true c29
                       clear c29
                       by_cases c30 : ((rdOf false (rd_L3 t103 x8_3) x9_4) != (rdOf false (rd_L3 t106 x8_3) x9_4)) = true
                       ·rw [if_pos c30] at H
                        have c30b0 : ((rdOf false (rd_L3 t103 x8_3) x9_4) != (rdOf false (rd_L3 t106 x8_3) x9_4)) = true := c30
                        (try (have c30b1 : decide ((rdOf false (rd_L3 t103 x8_3) x9_4) = (rdOf false (rd_L3 t106 x8_3) x9_4)) = false := by simpa using c30))
                        (try (have c30b2 : ((rdOf false (rd_L3 t103 x8_3) x9_4) == (rdOf false (rd_L3 t106 x8_3) x9_4)) = false := by simpa using c30))
                        (try (have c30b3 : ¬ ((rdOf false (rd_L3 t103 x8_3) x9_4) = (rdOf false (rd_L3 t106 x8_3) x9_4)) := by simpa using c30))
                        clear c30
                        obtain rfl := Option.some.inj H
                        have p111 : 0 ≤ (x8_3 : Int) := oD
                        have q111 : x8_3 < (t103.length : Int) := oD
                        obtain ⟨ad111, A111_0, c111_0, e111, hx111_0, hl111_0, hi111_0⟩ := at_L3 (Kd.N_reads' HO_6.out).2.2 x8_3 p111 q111
                        obtain rfl : ad109 = ad111 := (by injection e111)
                        obtain ⟨ce111, hce111, hMe111, hcc111⟩ := Kd.N_get HO_6.out [] x8_3 p111 (by first | exact q111 | exact oD | (have e_ := (Kd.N_reads' HO_6.out).1; omega))
                        obtain ⟨ua111_0, uc111_0, rfl, ul111_0, ge111_0⟩ := Kd.FK_slice_open hMe111
                        have hv111_0 := hcc111 0 _ rfl
                        rw [Nat.add_zero, show ((Kd.slice 4 Kd.bool)).sz = 1 from rfl, Nat.mul_one] at hv111_0
                        replace hv111_0 := Option.some.inj (hv111_0.symm.trans hx111_0)
                        injection hv111_0 with hva_ hvn_ hvc_
                        rw [hva_] at ge111_0
                        rw [hvc_] at ul111_0
                        have HL111_0 := Aside0.mk (show Kd.V Kd.bool 4 _ w.heap.size _ _ (rd_L3 t103 x8_3) from Kd.V_mk ul111_0 ge111_0)
                        clear hva_ hvn_ hvc_ ge111_0 ul111_0
                        clear hcc111 hce111
                        have HR111_0 := Aside0.mk hi111_0
                        have HC111_0 := Aside0.mk hl111_0
                        clear hi111_0 hl111_0
                        replace p111 := eq_true p111
                        replace q111 := eq_true q111
                        have p112 : 0 ≤ (x8_3 : Int) := oD
                        have q112 : x8_3 < (t103.length : Int) := oD
                        obtain ⟨ad112, A112_0, c112_0, e112, hx112_0, hl112_0, hi112_0⟩ := at_L3 (Kd.N_reads' HO_6.out).2.2 x8_3 p112 q112
                        obtain rfl : ad109 = ad112 := (by injection e112)
                        obtain ⟨ce112, hce112, hMe112, hcc112⟩ := Kd.N_get HO_6.out [] x8_3 p112 (by first | exact q112 | exact oD | (have e_ := (Kd.N_reads' HO_6.out).1; omega))
                        obtain ⟨ua112_0, uc112_0, rfl, ul112_0, ge112_0⟩ := Kd.FK_slice_open hMe112
                        have hv112_0 := hcc112 0 _ rfl
                        rw [Nat.add_zero, show ((Kd.slice 4 Kd.bool)).sz = 1 from rfl, Nat.mul_one] at hv112_0
                        replace hv112_0 := Option.some.inj (hv112_0.symm.trans hx112_0)
                        injection hv112_0 with hva_ hvn_ hvc_
                        rw [hva_] at ge112_0
                        rw [hvc_] at ul112_0
                        have HL112_0 := Aside0.mk (show Kd.V Kd.bool 4 _ w.heap.size _ _ (rd_L3 t103 x8_3) from Kd.V_mk ul112_0 ge112_0)
                        clear hva_ hvn_ hvc_ ge112_0 ul112_0
                        clear hcc112 hce112
                        have HR112_0 := Aside0.mk hi112_0
                        have HC112_0 := Aside0.mk hl112_0
                        clear hi112_0 hl112_0
                        replace p112 := eq_true p112
                        replace q112 := eq_true q112
                        have ea_ := Option.some.inj (hx111_0.symm.trans hx112_0)
                        injection ea_ with ea_ en_ ec_
                        subst ea_
                        subst ec_
                        clear en_
                        have p113 : 0 ≤ (x9_4 : Int) := oD
                        have q113 : x9_4 < ((rd_L3 t103 x8_3).length : Int) := oD
                        obtain ⟨ad113, e113, hx113_0⟩ := Kd.at_bool (aCw HR112_0) x9_4 p113 q113
                        cases e113
                        replace p113 := eq_true p113
                        replace q113 := eq_true q113
                        have p114 : 0 ≤ (x8_3 : Int) := oD
                        have q114 : x8_3 < (t106.length : Int) := oD
                        obtain ⟨ad114, A114_0, c114_0, e114, hx114_0, hl114_0, hi114_0⟩ := at_L3 (Kd.N_reads' HO_7.out).2.2 x8_3 p114 q114
                        obtain rfl : ad110 = ad114 := (by injection e114)
                        obtain ⟨ce114, hce114, hMe114, hcc114⟩ := Kd.N_get HO_7.out [] x8_3 p114 (by first | exact q114 | exact oD | (have e_ := (Kd.N_reads' HO_7.out).1; omega))
                        obtain ⟨ua114_0, uc114_0, rfl, ul114_0, ge114_0⟩ := Kd.FK_slice_open hMe114
                        have hv114_0 := hcc114 0 _ rfl
                        rw [Nat.add_zero, show ((Kd.slice 4 Kd.bool)).sz = 1 from rfl, Nat.mul_one] at hv114_0
                        replace hv114_0 := Option.some.inj (hv114_0.symm.trans hx114_0)
                        injection hv114_0 with hva_ hvn_ hvc_
                        rw [hva_] at ge114_0
                        rw [hvc_] at ul114_0
                        have HL114_0 := Aside0.mk (show Kd.V Kd.bool 4 _ w.heap.size _ _ (rd_L3 t106 x8_3) from Kd.V_mk ul114_0 ge114_0)
                        clear hva_ hvn_ hvc_ ge114_0 ul114_0
                        clear hcc114 hce114
                        have HR114_0 := Aside0.mk hi114_0
                        have HC114_0 := Aside0.mk hl114_0
                        clear hi114_0 hl114_0
                        replace p114 := eq_true p114
                        replace q114 := eq_true q114
                        have p115 : 0 ≤ (x9_4 : Int) := oD
                        have q115 : x9_4 < ((rd_L3 t106 x8_3).length : Int) := oD
                        obtain ⟨ad115, e115, hx115_0⟩ := Kd.at_bool (aCw HR114_0) x9_4 p115 q115
                        cases e115
                        replace p115 := eq_true p115
                        replace q115 := eq_true q115
                        go_wp2
                        repeat (go_quiet (fail); try go_wp2)
                        go_ret
                        exact ⟨by first | rfl | (simp [errW_none, errW_some] <;> rfl) | (simp [*, errW_none, errW_some] <;> rfl), bB⟩
                       ·rw [if_neg c30] at H
                        have c30b0 : ((rdOf false (rd_L3 t103 x8_3) x9_4) != (rdOf false (rd_L3 t106 x8_3) x9_4)) = false := by simpa using c30
                        (try (have c30b1 : decide ((rdOf false (rd_L3 t103 x8_3) x9_4) = (rdOf false (rd_L3 t106 x8_3) x9_4)) = true := by simpa using c30))
                        (try (have c30b2 : ((rdOf false (rd_L3 t103 x8_3) x9_4) == (rdOf false (rd_L3 t106 x8_3) x9_4)) = true := by simpa using c30))
                        clear c30
                        have H' := Aside0.mk H
                        clear H
                        have p111 : 0 ≤ (x8_3 : Int) := oD
                        have q111 : x8_3 < (t103.length : Int) := oD
                        obtain ⟨ad111, A111_0, c111_0, e111, hx111_0, hl111_0, hi111_0⟩ := at_L3 (Kd.N_reads' HO_6.out).2.2 x8_3 p111 q111
                        obtain rfl : ad109 = ad111 := (by injection e111)
                        obtain ⟨ce111, hce111, hMe111, hcc111⟩ := Kd.N_get HO_6.out [] x8_3 p111 (by first | exact q111 | exact oD | (have e_ := (Kd.N_reads' HO_6.out).1; omega))
                        obtain ⟨ua111_0, uc111_0, rfl, ul111_0, ge111_0⟩ := Kd.FK_slice_open hMe111
                        have hv111_0 := hcc111 0 _ rfl
                        rw [Nat.add_zero, show ((Kd.slice 4 Kd.bool)).sz = 1 from rfl, Nat.mul_one] at hv111_0
                        replace hv111_0 := Option.some.inj (hv111_0.symm.trans hx111_0)
                        injection hv111_0 with hva_ hvn_ hvc_
                        rw [hva_] at ge111_0
                        rw [hvc_] at ul111_0
                        have HL111_0 := Aside0.mk (show Kd.V Kd.bool 4 _ w.heap.size _ _ (rd_L3 t103 x8_3) from Kd.V_mk ul111_0 ge111_0)
                        clear hva_ hvn_ hvc_ ge111_0 ul111_0
                        clear hcc111 hce111
                        have HR111_0 := Aside0.mk hi111_0
                        have HC111_0 := Aside0.mk hl111_0
                        clear hi111_0 hl111_0
                        replace p111 := eq_true p111
                        replace q111 := eq_true q111
                        have p112 : 0 ≤ (x8_3 : Int) := oD
                        have q112 : x8_3 < (t103.length : Int) := oD
                        obtain ⟨ad112, A112_0, c112_0, e112, hx112_0, hl112_0, hi112_0⟩ := at_L3 (Kd.N_reads' HO_6.out).2.2 x8_3 p112 q112
                        obtain rfl : ad109 = ad112 := (by injection e112)
                        obtain ⟨ce112, hce112, hMe112, hcc112⟩ := Kd.N_get HO_6.out [] x8_3 p112 (by first | exact q112 | exact oD | (have e_ := (Kd.N_reads' HO_6.out).1; omega))
                        obtain ⟨ua112_0, uc112_0, rfl, ul112_0, ge112_0⟩ := Kd.FK_slice_open hMe112
                        have hv112_0 := hcc112 0 _ rfl
                        rw [Nat.add_zero, show ((Kd.slice 4 Kd.bool)).sz = 1 from rfl, Nat.mul_one] at hv112_0
                        replace hv112_0 := Option.some.inj (hv112_0.symm.trans hx112_0)
                        injection hv112_0 with hva_ hvn_ hvc_
                        rw [hva_] at ge112_0
                        rw [hvc_] at ul112_0
                        have HL112_0 := Aside0.mk (show Kd.V Kd.bool 4 _ w.heap.size _ _ (rd_L3 t103 x8_3) from Kd.V_mk ul112_0 ge112_0)
                        clear hva_ hvn_ hvc_ ge112_0 ul112_0
                        clear hcc112 hce112
                        have HR112_0 := Aside0.mk hi112_0
                        have HC112_0 := Aside0.mk hl112_0
                        clear hi112_0 hl112_0
                        replace p112 := eq_true p112
                        replace q112 := eq_true q112
                        have ea_ := Option.some.inj (hx111_0.symm.trans hx112_0)
                        injection ea_ with ea_ en_ ec_
                        subst ea_
                        subst ec_
                        clear en_
                        have p113 : 0 ≤ (x9_4 : Int) := oD
                        have q113 : x9_4 < ((rd_L3 t103 x8_3).length : Int) := oD
                        obtain ⟨ad113, e113, hx113_0⟩ := Kd.at_bool (aCw HR112_0) x9_4 p113 q113
                        cases e113
                        replace p113 := eq_true p113
                        replace q113 := eq_true q113
                        have p114 : 0 ≤ (x8_3 : Int) := oD
                        have q114 : x8_3 < (t106.length : Int) := oD
                        obtain ⟨ad114, A114_0, c114_0, e114, hx114_0, hl114_0, hi114_0⟩ := at_L3 (Kd.N_reads' HO_7.out).2.2 x8_3 p114 q114
                        obtain rfl : ad110 = ad114 := (by injection e114)
                        obtain ⟨ce114, hce114, hMe114, hcc114⟩ := Kd.N_get HO_7.out [] x8_3 p114 (by first | exact q114 | exact oD | (have e_ := (Kd.N_reads' HO_7.out).1; omega))
                        obtain ⟨ua114_0, uc114_0, rfl, ul114_0, ge114_0⟩ := Kd.FK_slice_open hMe114
                        have hv114_0 := hcc114 0 _ rfl
                        rw [Nat.add_zero, show ((Kd.slice 4 Kd.bool)).sz = 1 from rfl, Nat.mul_one] at hv114_0
                        replace hv114_0 := Option.some.inj (hv114_0.symm.trans hx114_0)
                        injection hv114_0 with hva_ hvn_ hvc_
                        rw [hva_] at ge114_0
                        rw [hvc_] at ul114_0
                        have HL114_0 := Aside0.mk (show Kd.V Kd.bool 4 _ w.heap.size _ _ (rd_L3 t106 x8_3) from Kd.V_mk ul114_0 ge114_0)
                        clear hva_ hvn_ hvc_ ge114_0 ul114_0
                        clear hcc114 hce114
                        have HR114_0 := Aside0.mk hi114_0
                        have HC114_0 := Aside0.mk hl114_0
                        clear hi114_0 hl114_0
                        replace p114 := eq_true p114
                        replace q114 := eq_true q114
                        have p115 : 0 ≤ (x9_4 : Int) := oD
                        have q115 : x9_4 < ((rd_L3 t106 x8_3).length : Int) := oD
                        obtain ⟨ad115, e115, hx115_0⟩ := Kd.at_bool (aCw HR114_0) x9_4 p115 q115
                        cases e115
                        replace p115 := eq_true p115
                        replace q115 := eq_true q115
                        go_wp2
                        repeat (go_quiet (fail); try go_wp2)
                        go_roundg k4
                        case measure => have := HJ4.out; have := HK2.out; have := HK3.out; have := HK4.out; omega
                        case rel => exact ⟨(wrap64 (x9_4 + 1)), bS, H', ⟨by have := HJ4.out; have := HK2.out; have := HK3.out; have := HK4.out; omega⟩, ⟨by (with_reducible repeat (first | apply Kd.N_alloc | apply Kd.N_drewN | apply Kd.N_drew)); exact HO_6.out⟩, ⟨by (with_reducible repeat (first | apply Kd.N_alloc | apply Kd.N_drewN | apply Kd.N_drew)); exact HO_7.out⟩, ⟨by repeat (first | (with_reducible exact HR109_0.out) | (with_reducible refine Kd.C_alloc ?_ _) | (with_reducible refine Kd.C_drewN ?_ _) | (with_reducible refine Kd.C_drew ?_) | exact HR109_0.out)⟩, ⟨by repeat (first | (with_reducible exact HR110_0.out) | (with_reducible refine Kd.C_alloc ?_ _) | (with_reducible refine Kd.C_drewN ?_ _) | (with_reducible refine Kd.C_drew ?_) | exact HR110_0.out)⟩, ⟨bB⟩⟩
                      ·rw [if_neg c29] at H
                       exact absurd H (by simp)
                     ·rw [if_neg c28] at H
                      exact absurd H (by simp)
                    ·rw [if_neg c27] at H
                     exact absurd H (by simp)
                   ·rw [if_neg c26] at H
                    have c26b0 : decide (x9_4 < ((rd_L3 t103 x8_3).length : Int)) = false := decide_eq_false c26
                    clear c26
                    have H' := Aside0.mk H
                    clear H
                    have p111 : 0 ≤ (x8_3 : Int) := oD
                    have q111 : x8_3 < (t103.length : Int) := oD
                    obtain ⟨ad111, A111_0, c111_0, e111, hx111_0, hl111_0, hi111_0⟩ := at_L3 (Kd.N_reads' HO_6.out).2.2 x8_3 p111 q111
                    obtain rfl : ad109 = ad111 := (by injection e111)
                    obtain ⟨ce111, hce111, hMe111, hcc111⟩ := Kd.N_get HO_6.out [] x8_3 p111 (by first | exact q111 | exact oD | (have e_ := (Kd.N_reads' HO_6.out).1; omega))
                    obtain ⟨ua111_0, uc111_0, rfl, ul111_0, ge111_0⟩ := Kd.FK_slice_open hMe111
                    have hv111_0 := hcc111 0 _ rfl
                    rw [Nat.add_zero, show ((Kd.slice 4 Kd.bool)).sz = 1 from rfl, Nat.mul_one] at hv111_0
                    replace hv111_0 := Option.some.inj (hv111_0.symm.trans hx111_0)
                    injection hv111_0 with hva_ hvn_ hvc_
                    rw [hva_] at ge111_0
                    rw [hvc_] at ul111_0
                    have HL111_0 := Aside0.mk (show Kd.V Kd.bool 4 _ w.heap.size _ _ (rd_L3 t103 x8_3) from Kd.V_mk ul111_0 ge111_0)
                    clear hva_ hvn_ hvc_ ge111_0 ul111_0
                    clear hcc111 hce111
                    have HR111_0 := Aside0.mk hi111_0
                    have HC111_0 := Aside0.mk hl111_0
                    clear hi111_0 hl111_0
                    replace p111 := eq_true p111
                    replace q111 := eq_true q111
                    go_wp2
                    repeat (go_quiet (fail); try go_wp2)
                    go_roundg k4
                    case measure => have := HJ4.out; have := HK2.out; have := HK3.out; have := HK4.out; omega
                    case rel => exact ⟨(wrap64 (x8_3 + 1)), bS, H', ⟨by have := HJ4.out; have := HK2.out; have := HK3.out; have := HK4.out; omega⟩, ⟨by (with_reducible repeat (first | apply Kd.N_alloc | apply Kd.N_drewN | apply Kd.N_drew)); exact HO_6.out⟩, ⟨by (with_reducible repeat (first | apply Kd.N_alloc | apply Kd.N_drewN | apply Kd.N_drew)); exact HO_7.out⟩, ⟨bB⟩⟩
                  ·rw [if_neg c25] at H
                   exact absurd H (by simp)
                 ·rw [if_neg c24] at H
                  exact absurd H (by simp)
              ·rw [if_neg c23] at H
               have c23b0 : (((rd_L3 t103 x8_3).length : Int) == ((rd_L3 t106 x8_3).length : Int)) = false := beq_eq_false_iff_ne.mpr c23
               have c23b1 : (((rd_L3 t103 x8_3).length : Int) != ((rd_L3 t106 x8_3).length : Int)) = true := bne_iff_ne.mpr c23
               have c23b2 : ((rd_L3 t103 x8_3).length == (rd_L3 t106 x8_3).length) = false := by first | simpa using c23 | (simp at c23 ⊢; omega)
               obtain rfl := Option.some.inj H
               have p109 : 0 ≤ (x8_3 : Int) := oD
               have q109 : x8_3 < (t103.length : Int) := oD
               obtain ⟨ad109, A109_0, c109_0, e109, hx109_0, hl109_0, hi109_0⟩ := at_L3 (Kd.N_reads' HO_6.out).2.2 x8_3 p109 q109
               cases e109
               obtain ⟨ce109, hce109, hMe109, hcc109⟩ := Kd.N_get HO_6.out [] x8_3 p109 (by first | exact q109 | exact oD | (have e_ := (Kd.N_reads' HO_6.out).1; omega))
               obtain ⟨ua109_0, uc109_0, rfl, ul109_0, ge109_0⟩ := Kd.FK_slice_open hMe109
               have hv109_0 := hcc109 0 _ rfl
               rw [Nat.add_zero, show ((Kd.slice 4 Kd.bool)).sz = 1 from rfl, Nat.mul_one] at hv109_0
               replace hv109_0 := Option.some.inj (hv109_0.symm.trans hx109_0)
               injection hv109_0 with hva_ hvn_ hvc_
               rw [hva_] at ge109_0
               rw [hvc_] at ul109_0
               have HL109_0 := Aside0.mk (show Kd.V Kd.bool 4 _ w.heap.size _ _ (rd_L3 t103 x8_3) from Kd.V_mk ul109_0 ge109_0)
               clear hva_ hvn_ hvc_ ge109_0 ul109_0
               clear hcc109 hce109
               have HR109_0 := Aside0.mk hi109_0
               have HC109_0 := Aside0.mk hl109_0
               clear hi109_0 hl109_0
               replace p109 := eq_true p109
               replace q109 := eq_true q109
               have p110 : 0 ≤ (x8_3 : Int) := oD
               have q110 : x8_3 < (t106.length : Int) := oD
               obtain ⟨ad110, A110_0, c110_0, e110, hx110_0, hl110_0, hi110_0⟩ := at_L3 (Kd.N_reads' HO_7.out).2.2 x8_3 p110 q110
               cases e110
               obtain ⟨ce110, hce110, hMe110, hcc110⟩ := Kd.N_get HO_7.out [] x8_3 p110 (by first | exact q110 | exact oD | (have e_ := (Kd.N_reads' HO_7.out).1; omega))
               obtain ⟨ua110_0, uc110_0, rfl, ul110_0, ge110_0⟩ := Kd.FK_slice_open hMe110
               have hv110_0 := hcc110 0 _ rfl
               rw [Nat.add_zero, show ((Kd.slice 4 Kd.bool)).sz = 1 from rfl, Nat.mul_one] at hv110_0
               replace hv110_0 := Option.some.inj (hv110_0.symm.trans hx110_0)
               injection hv110_0 with hva_ hvn_ hvc_
               rw [hva_] at ge110_0
               rw [hvc_] at ul110_0
               have HL110_0 := Aside0.mk (show Kd.V Kd.bool 4 _ w.heap.size _ _ (rd_L3 t106 x8_3) from Kd.V_mk ul110_0 ge110_0)
               clear hva_ hvn_ hvc_ ge110_0 ul110_0
               clear hcc110 hce110
               have HR110_0 := Aside0.mk hi110_0
               have HC110_0 := Aside0.mk hl110_0
               clear hi110_0 hl110_0
               replace p110 := eq_true p110
               replace q110 := eq_true q110
               go_wp2
               repeat (go_quiet (fail); try go_wp2)
               go_ret
               exact ⟨by first | rfl | (simp [errW_none, errW_some] <;> rfl) | (simp [*, errW_none, errW_some] <;> rfl), bB⟩
             ·rw [if_neg c22] at H
              exact absurd H (by simp)
            ·rw [if_neg c21] at H
             exact absurd H (by simp)
           ·rw [if_neg c20] at H
            have c20b0 : decide (x8_3 < (t103.length : Int)) = false := decide_eq_false c20
            clear c20
            obtain rfl := Option.some.inj H
            go_wp2
            repeat (go_quiet (fail); try go_wp2)
            go_ret
            exact ⟨by first | rfl | (simp [errW_none, errW_some] <;> rfl) | (simp [*, errW_none, errW_some] <;> rfl), bB⟩
        ·rw [if_neg c15] at H
         have c15b0 : ((t103.length : Int) == (t106.length : Int)) = false := beq_eq_false_iff_ne.mpr c15
         have c15b1 : ((t103.length : Int) != (t106.length : Int)) = true := bne_iff_ne.mpr c15
         have c15b2 : (t103.length == t106.length) = false := by first | simpa using c15 | (simp at c15 ⊢; omega)
         obtain rfl := Option.some.inj H
         go_wp2_with (first | (go_at_call 31; (with_reducible refine (clause_Models.calls _ _ l0 a1 t103 _ ?side1 ?side2 A13.out).mono ?_); (case side1 => exact sW (Kd.C_below HR0.out HB.out)); (case side2 => exact HC0.out); rintro e w31 ⟨v104, rfl, ho0, hb⟩; have HO105 := Aside0.mk (Kd.N_lower (Kd.N_mono (ok' := fun k_ => True) ho0 (fun k_ hk_ => trivial)) (below_size bB)); replace HB := aB HB hb; (try clear hb); (try clear hb2); (try clear hk); (try clear hi); (try clear ho0)) | (go_at_call 32; (refine (ferruleref12_Models.calls k2 _ _ l0 a1 _ _ ([] : List Bool) t106 _ ?side1 ?side2 ?side3 ?side4 A14.out).mono ?_); (case side1 => exact sW (Kd.C_below HR0.out HB.out)); (case side2 => exact HC0.out); (case side3 => exact Kd.C_nil _ _); (case side4 => exact Nat.le_refl _); rintro e w32 ⟨v107, rfl, ho0, hb⟩; have HO108 := Aside0.mk (Kd.N_lower (Kd.N_mono (ok' := fun k_ => some k_ ≠ (v104 : Value).ownBlock) ho0 (fun k_ hk_ => (Kd.fresh' (Kd.N_lt (by (with_reducible repeat (first | apply Kd.N_alloc | apply Kd.N_drewN | apply Kd.N_drew)); exact HO105.out)) k_ hk_))) (below_size bB)); replace HO105 := Aside0.mk (Kd.N_elder' (by (with_reducible repeat (first | apply Kd.N_alloc | apply Kd.N_drewN | apply Kd.N_drew)); exact HO105.out) (Kd.N_base ho0) hb); replace HB := aB HB hb; (try clear hb); (try clear hb2); (try clear hk); (try clear hi); (try clear ho0); obtain ⟨Ao33, co33, eo33⟩ := Kd.N_slice HO105.out; subst eo33; obtain ⟨Ao34, co34, eo34⟩ := Kd.N_slice HO108.out; subst eo34))
         repeat (go_quiet (first | (go_at_call 31; (with_reducible refine (clause_Models.calls _ _ l0 a1 t103 _ ?side1 ?side2 A13.out).mono ?_); (case side1 => exact sW (Kd.C_below HR0.out HB.out)); (case side2 => exact HC0.out); rintro e w31 ⟨v104, rfl, ho0, hb⟩; have HO105 := Aside0.mk (Kd.N_lower (Kd.N_mono (ok' := fun k_ => True) ho0 (fun k_ hk_ => trivial)) (below_size bB)); replace HB := aB HB hb; (try clear hb); (try clear hb2); (try clear hk); (try clear hi); (try clear ho0)) | (go_at_call 32; (refine (ferruleref12_Models.calls k2 _ _ l0 a1 _ _ ([] : List Bool) t106 _ ?side1 ?side2 ?side3 ?side4 A14.out).mono ?_); (case side1 => exact sW (Kd.C_below HR0.out HB.out)); (case side2 => exact HC0.out); (case side3 => exact Kd.C_nil _ _); (case side4 => exact Nat.le_refl _); rintro e w32 ⟨v107, rfl, ho0, hb⟩; have HO108 := Aside0.mk (Kd.N_lower (Kd.N_mono (ok' := fun k_ => some k_ ≠ (v104 : Value).ownBlock) ho0 (fun k_ hk_ => (Kd.fresh' (Kd.N_lt (by (with_reducible repeat (first | apply Kd.N_alloc | apply Kd.N_drewN | apply Kd.N_drew)); exact HO105.out)) k_ hk_))) (below_size bB)); replace HO105 := Aside0.mk (Kd.N_elder' (by (with_reducible repeat (first | apply Kd.N_alloc | apply Kd.N_drewN | apply Kd.N_drew)); exact HO105.out) (Kd.N_base ho0) hb); replace HB := aB HB hb; (try clear hb); (try clear hb2); (try clear hk); (try clear hi); (try clear ho0); obtain ⟨Ao33, co33, eo33⟩ := Kd.N_slice HO105.out; subst eo33; obtain ⟨Ao34, co34, eo34⟩ := Kd.N_slice HO108.out; subst eo34)); try go_wp2_with (first | (go_at_call 31; (with_reducible refine (clause_Models.calls _ _ l0 a1 t103 _ ?side1 ?side2 A13.out).mono ?_); (case side1 => exact sW (Kd.C_below HR0.out HB.out)); (case side2 => exact HC0.out); rintro e w31 ⟨v104, rfl, ho0, hb⟩; have HO105 := Aside0.mk (Kd.N_lower (Kd.N_mono (ok' := fun k_ => True) ho0 (fun k_ hk_ => trivial)) (below_size bB)); replace HB := aB HB hb; (try clear hb); (try clear hb2); (try clear hk); (try clear hi); (try clear ho0)) | (go_at_call 32; (refine (ferruleref12_Models.calls k2 _ _ l0 a1 _ _ ([] : List Bool) t106 _ ?side1 ?side2 ?side3 ?side4 A14.out).mono ?_); (case side1 => exact sW (Kd.C_below HR0.out HB.out)); (case side2 => exact HC0.out); (case side3 => exact Kd.C_nil _ _); (case side4 => exact Nat.le_refl _); rintro e w32 ⟨v107, rfl, ho0, hb⟩; have HO108 := Aside0.mk (Kd.N_lower (Kd.N_mono (ok' := fun k_ => some k_ ≠ (v104 : Value).ownBlock) ho0 (fun k_ hk_ => (Kd.fresh' (Kd.N_lt (by (with_reducible repeat (first | apply Kd.N_alloc | apply Kd.N_drewN | apply Kd.N_drew)); exact HO105.out)) k_ hk_))) (below_size bB)); replace HO105 := Aside0.mk (Kd.N_elder' (by (with_reducible repeat (first | apply Kd.N_alloc | apply Kd.N_drewN | apply Kd.N_drew)); exact HO105.out) (Kd.N_base ho0) hb); replace HB := aB HB hb; (try clear hb); (try clear hb2); (try clear hk); (try clear hi); (try clear ho0); obtain ⟨Ao33, co33, eo33⟩ := Kd.N_slice HO105.out; subst eo33; obtain ⟨Ao34, co34, eo34⟩ := Kd.N_slice HO108.out; subst eo34)))
         go_ret
         exact ⟨by first | rfl | (simp [errW_none, errW_some] <;> rfl) | (simp [*, errW_none, errW_some] <;> rfl), bB⟩
 ·replace c4 := Bool.eq_false_iff.mpr c4
  subst c4
  have H1 : (some false) = some r := by rw [if_neg (show ¬ (false = true) by decide)] at H; exact H
  clear H
  have H := H1
  clear H1
  obtain rfl := Option.some.inj H
  go_enter Try.func7, Try.ntmps7
  go_wp2_with (first | (go_at_call 30; (with_reducible refine (ferrulelaw12_awake.calls k  false _ A3.out).mono ?_); rintro e w35 ⟨rfl, hb⟩; replace HB := aB HB hb; (try clear hb); (try clear hb2); (try clear hk); (try clear hi)))
  repeat (go_quiet (first | (go_at_call 30; (with_reducible refine (ferrulelaw12_awake.calls k  false _ A3.out).mono ?_); rintro e w35 ⟨rfl, hb⟩; replace HB := aB HB hb; (try clear hb); (try clear hb2); (try clear hk); (try clear hi))); try go_wp2_with (first | (go_at_call 30; (with_reducible refine (ferrulelaw12_awake.calls k  false _ A3.out).mono ?_); rintro e w35 ⟨rfl, hb⟩; replace HB := aB HB hb; (try clear hb); (try clear hb2); (try clear hk); (try clear hi))))
  go_ret
  exact ⟨by first | rfl | (simp [errW_none, errW_some] <;> rfl) | (simp [*, errW_none, errW_some] <;> rfl), bB⟩

def ferrulelaw12_ClauseModels.Pure : Prop := ∀ (l0 : List (List Int)) (a1 : Int), (fun l : (List (List Int)) => l.length ≤ maxLen ∧ ∀ x ∈ l, (fun l : (List Int) => l.length ≤ maxLen ∧ ∀ x ∈ l, (fun x : Int => (Lit.int .i64 x).wf = true) x) x) l0 → (Lit.int .i64 a1).wf = true → ∃ k, ferrulelaw12_ClauseModels.f k l0 a1 = some true

end Go.Proofs.Ytohgjbkiemnfnaa.X
