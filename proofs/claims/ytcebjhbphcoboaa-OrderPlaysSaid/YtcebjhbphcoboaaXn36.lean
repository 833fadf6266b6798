-- Written by a program of this session (wip/xp), out of the translation. Not trusted: Lean checks it.
import Derived.Test.YtcebjhbphcoboaaX0
import Derived.Test.YtcebjhbphcoboaaXn70
import Derived.Test.YtcebjhbphcoboaaXm
-- shrunk
namespace Go.Proofs.Ytcebjhbphcoboaa.X
open Go.RowKit Go.Proofs.YtcebjhbphcoboaaW.PrintWords Go.Proofs.YtcebjhbphcoboaaW.PrintLast Go.Proofs.YtcebjhbphcoboaaW.PrintMore
attribute [local go_sem] Lab.str_gtr Lab.str_leq Lab.str_geq max2_int min2_int max_two min_two max_three min_three max_four min_four   -- for this text's walks alone
set_option linter.unusedVariables false
set_option linter.unusedSimpArgs false

/-! ### ferruleref13_Truths: function 36 -/
mutual
def ferruleref13_Truths.l0 : Nat → List Int → List Int → Int → Option (List Bool)
 | 0, _, _, _ => none
 | k + 1, x0, x1, x5 => if x5 < (x0.length : Int) then (if 0 ≤ x5 then (if x5 < (x1.length : Int) then (if (rd x1 x5) < (-1) then (some ([] : List Bool)) else (if (rd x1 x5) ≥ (rd x0 x5) then (some ([] : List Bool)) else (ferruleref13_Truths.l0 k x0 x1 (wrap64 (x5 + 1))))) else (none)) else (none)) else ((ferruleref13_All.f k x0).bind fun t104 => (ferruleref13_Truths.l1 k x1 t104 ([] : List Bool) 0))
def ferruleref13_Truths.l1 : Nat → List Int → List (S111) → List Bool → Int → Option (List Bool)
 | 0, _, _, _, _ => none
 | k + 1, x1, x6, x7, x8 => if x8 < (x6.length : Int) then (if 0 ≤ x8 then ((ferruleref13_Is.f ((rd_T111 x6 x8).f0) ((rd_T111 x6 x8).f1) ((rd_T111 x6 x8).f2) x1).bind fun t108 => (if x7.length < 140737488355328 then (ferruleref13_Truths.l1 k x1 x6 (x7 ++ [t108]) (wrap64 (x8 + 1))) else (none))) else (none)) else (some x7)
end
def ferruleref13_Truths.f (k : Nat) (l0 : List Int) (l1 : List Int) : Option (List Bool) := if (l1.length : Int) = (l0.length : Int) then (ferruleref13_Truths.l0 k l0 l1 0) else (some ([] : List Bool))
theorem ferruleref13_Truths.mono_l : ∀ k, (∀ y0 y1 y2, LeO (ferruleref13_Truths.l0 k y0 y1 y2) (ferruleref13_Truths.l0 (k + 1) y0 y1 y2)) ∧ (∀ y0 y1 y2 y3, LeO (ferruleref13_Truths.l1 k y0 y1 y2 y3) (ferruleref13_Truths.l1 (k + 1) y0 y1 y2 y3))
 | 0 => ⟨fun _ _ _ r h => by simp [ferruleref13_Truths.l0] at h, fun _ _ _ _ r h => by simp [ferruleref13_Truths.l1] at h⟩
 | k + 1 => by
  obtain ⟨ih0, ih1⟩ := ferruleref13_Truths.mono_l k
  refine ⟨?_, ?_⟩
  ·intro y0 y1 y2
   unfold ferruleref13_Truths.l0
   repeat' first
   | (with_reducible exact ih0 _ _ _)
   | (with_reducible exact ih1 _ _ _ _)
   | (with_reducible exact ferruleref13_All.mono _ _)
   | (with_reducible exact LeO.refl _)
   | (with_reducible exact LeO.none _)
   | (with_reducible refine LeO.ite ?_ ?_)
   | (with_reducible refine LeO.bind ?_ (fun _ => ?_))
   | exact ih0 _ _ _
   | exact ih1 _ _ _ _
   | exact ferruleref13_All.mono _ _
   | exact LeO.none _
   | refine LeO.ite ?_ ?_
   | refine LeO.bind ?_ (fun _ => ?_)
  ·intro y0 y1 y2 y3
   unfold ferruleref13_Truths.l1
   repeat' first
   | (with_reducible exact ih0 _ _ _)
   | (with_reducible exact ih1 _ _ _ _)
   | (with_reducible exact ferruleref13_All.mono _ _)
   | (with_reducible exact LeO.refl _)
   | (with_reducible exact LeO.none _)
   | (with_reducible refine LeO.ite ?_ ?_)
   | (with_reducible refine LeO.bind ?_ (fun _ => ?_))
   | exact ih0 _ _ _
   | exact ih1 _ _ _ _
   | exact ferruleref13_All.mono _ _
   | exact LeO.none _
   | refine LeO.ite ?_ ?_
   | refine LeO.bind ?_ (fun _ => ?_)
theorem ferruleref13_Truths.mono : ∀ a0 a1 k, LeO (ferruleref13_Truths.f k a0 a1) (ferruleref13_Truths.f (k + 1) a0 a1) := by
 intro a0 a1 k
 obtain ⟨ih0, ih1⟩ := ferruleref13_Truths.mono_l k
 unfold ferruleref13_Truths.f
 repeat' first
   | (with_reducible exact ih0 _ _ _)
   | (with_reducible exact ih1 _ _ _ _)
   | (with_reducible exact ferruleref13_All.mono _ _)
   | (with_reducible exact LeO.refl _)
   | (with_reducible exact LeO.none _)
   | (with_reducible refine LeO.ite ?_ ?_)
   | (with_reducible refine LeO.bind ?_ (fun _ => ?_))
   | exact ih0 _ _ _
   | exact ih1 _ _ _ _
   | exact ferruleref13_All.mono _ _
   | exact LeO.none _
   | refine LeO.ite ?_ ?_
   | refine LeO.bind ?_ (fun _ => ?_)
set_option maxHeartbeats 8000000 in
set_option maxRecDepth 100000 in
theorem ferruleref13_Truths.calls (k : Nat) (A0 : Option Addr) (c0 : Nat) (l0 : List Int) (A1 : Option Addr) (c1 : Nat) (l1 : List Int) (r : List Bool) (w : World) (hr0 : Kd.C (Kd.int .i64) w A0 l0.length l0) (hc0 : l0.length ≤ c0) (hr1 : Kd.C (Kd.int .i64) w A1 l1.length l1) (hc1 : l1.length ≤ c1) (h : ferruleref13_Truths.f k l0 l1 = some r) :
  Calls Try.prog 36 #[.slice A0 l0.length c0, .slice A1 l1.length c1] w fun e w' => ∃ v0_ : Value, e = .returned (v0_) ∧ Kd.R Kd.bool 4 w' w.heap.size (fun _ => True) v0_ r ∧ Below w.heap.size w w' := by
 have hu111 := Try.underlying111
 have HR0 := Aside0.mk hr0
 have HC0 := Aside0.mk hc0
 clear hr0 hc0
 have HR1 := Aside0.mk hr1
 have HC1 := Aside0.mk hc1
 clear hr1 hc1
 have HB := Aside0.mk (Below.refl w.heap.size w)
 have H : (if (l1.length : Int) = (l0.length : Int) then (ferruleref13_Truths.l0 k l0 l1 0) else (some ([] : List Bool))) = some r := h
 clear h
 by_cases c3 : (l1.length : Int) = (l0.length : Int)
 ·rw [if_pos c3] at H
  have c3b0 : ((l1.length : Int) == (l0.length : Int)) = true := beq_iff_eq.mpr c3
  have c3b1 : ((l1.length : Int) != (l0.length : Int)) = false := bne_eq_false_iff_eq.mpr c3
  have c3b2 : (l1.length == l0.length) = true := by first | simpa using c3 | (simp at c3 ⊢; omega)
  clear c3
  have H' := Aside0.mk H
  clear H
  go_enter Try.func36, Try.ntmps36
  go_wp2
  repeat (go_quiet (fail); try go_wp2)
  go_loopg [5] k (fun kq v5 w' => ∃ (x5_1 : Int), v5 = .int .i64 x5_1 ∧ Aside0 (ferruleref13_Truths.l0 kq l0 l1 x5_1 = some r) ∧ Aside0 (kq ≤ k) ∧ Aside0 (Below w.heap.size w w'))
  case atStart => exact ⟨(0), bS, H', ⟨Nat.le_refl _⟩, ⟨bB⟩⟩
  case round =>
   clear H'
   try clear c1
   try clear p2
   try clear c3
   try clear c3b0
   try clear c3b1
   try clear c3b2
   obtain ⟨x5_1, rfl, HA, HK1, HB⟩ := hrel
   cases gk with
   | zero => exact absurd HA.out (by simp [ferruleref13_Truths.l0])
   | succ k1 =>
    have H := HA.out
    clear HA
    simp only [ferruleref13_Truths.l0] at H
    by_cases c4 : x5_1 < (l0.length : Int)
    ·rw [if_pos c4] at H
     have c4b0 : decide (x5_1 < (l0.length : Int)) = true := decide_eq_true c4
     clear c4
     by_cases c5 : 0 ≤ x5_1
     ·rw [if_pos c5] at H
      have c5b0 : decide (0 ≤ x5_1) = true := decide_eq_true c5
      clear c5
      by_cases c6 : x5_1 < (l1.length : Int)
      ·rw [if_pos c6] at H
       have c6b0 : decide (x5_1 < (l1.length : Int)) = true := decide_eq_true c6
       clear c6
       by_cases c7 : (rd l1 x5_1) < (-1)
       ·rw [if_pos c7] at H
        have c7b0 : decide ((rd l1 x5_1) < (-1)) = true := decide_eq_true c7
        clear c7
        obtain rfl := Option.some.inj H
        have p101 : 0 ≤ (x5_1 : Int) := oD
        have q101 : x5_1 < (l1.length : Int) := oD
        obtain ⟨ad101, e101, hx101_0⟩ := Kd.at_int HR1.out x5_1 p101 q101
        cases e101
        replace hx101_0 := (HB.out.cell (World.block_lt_of_cell? w _ hx101_0)).trans hx101_0
        replace p101 := eq_true p101
        replace q101 := eq_true q101
        go_wp2
        repeat (go_quiet (fail); try go_wp2)
        go_ret
        exact ⟨_, by first | rfl | (simp [errW_none, errW_some] <;> rfl) | (simp [*, errW_none, errW_some] <;> rfl), by first | exact Kd.R_nil _ _ _ _ _ | exact Kd.N_nil _ _ _ _ _ | exact Kd.V_nil _ _ _ _ _ | exact Kd.Q_nil _ _ _ _ _ | exact Kd.S_nil _ _ _ _ _, bB⟩
       ·rw [if_neg c7] at H
        have c7b0 : decide ((rd l1 x5_1) < (-1)) = false := decide_eq_false c7
        clear c7
        by_cases c8 : (rd l1 x5_1) ≥ (rd l0 x5_1)
        ·rw [if_pos c8] at H
         have c8b0 : decide ((rd l0 x5_1) ≤ (rd l1 x5_1)) = true := decide_eq_true c8
         clear c8
         obtain rfl := Option.some.inj H
         have p101 : 0 ≤ (x5_1 : Int) := oD
         have q101 : x5_1 < (l1.length : Int) := oD
         obtain ⟨ad101, e101, hx101_0⟩ := Kd.at_int HR1.out x5_1 p101 q101
         cases e101
         replace hx101_0 := (HB.out.cell (World.block_lt_of_cell? w _ hx101_0)).trans hx101_0
         replace p101 := eq_true p101
         replace q101 := eq_true q101
         have p102 : 0 ≤ (x5_1 : Int) := oD
         have q102 : x5_1 < (l1.length : Int) := oD
         obtain ⟨ad102, e102, hx102_0⟩ := Kd.at_int HR1.out x5_1 p102 q102
         obtain rfl : ad101 = ad102 := (by injection e102)
         replace hx102_0 := (HB.out.cell (World.block_lt_of_cell? w _ hx102_0)).trans hx102_0
         replace p102 := eq_true p102
         replace q102 := eq_true q102
         have p103 : 0 ≤ (x5_1 : Int) := oD
         have q103 : x5_1 < (l0.length : Int) := oD
         obtain ⟨ad103, e103, hx103_0⟩ := Kd.at_int HR0.out x5_1 p103 q103
         cases e103
         replace hx103_0 := (HB.out.cell (World.block_lt_of_cell? w _ hx103_0)).trans hx103_0
         replace p103 := eq_true p103
         replace q103 := eq_true q103
         go_wp2
         repeat (go_quiet (fail); try go_wp2)
         go_ret
         exact ⟨_, by first | rfl | (simp [errW_none, errW_some] <;> rfl) | (simp [*, errW_none, errW_some] <;> rfl), by first | exact Kd.R_nil _ _ _ _ _ | exact Kd.N_nil _ _ _ _ _ | exact Kd.V_nil _ _ _ _ _ | exact Kd.Q_nil _ _ _ _ _ | exact Kd.S_nil _ _ _ _ _, bB⟩
        ·rw [if_neg c8] at H
         have c8b0 : decide ((rd l0 x5_1) ≤ (rd l1 x5_1)) = false := decide_eq_false c8
         clear c8
         have H' := Aside0.mk H
         clear H
         have p101 : 0 ≤ (x5_1 : Int) := oD
         have q101 : x5_1 < (l1.length : Int) := oD
         obtain ⟨ad101, e101, hx101_0⟩ := Kd.at_int HR1.out x5_1 p101 q101
         cases e101
         replace hx101_0 := (HB.out.cell (World.block_lt_of_cell? w _ hx101_0)).trans hx101_0
         replace p101 := eq_true p101
         replace q101 := eq_true q101
         have p102 : 0 ≤ (x5_1 : Int) := oD
         have q102 : x5_1 < (l1.length : Int) := oD
         obtain ⟨ad102, e102, hx102_0⟩ := Kd.at_int HR1.out x5_1 p102 q102
         obtain rfl : ad101 = ad102 := (by injection e102)
         replace hx102_0 := (HB.out.cell (World.block_lt_of_cell? w _ hx102_0)).trans hx102_0
         replace p102 := eq_true p102
         replace q102 := eq_true q102
         have p103 : 0 ≤ (x5_1 : Int) := oD
         have q103 : x5_1 < (l0.length : Int) := oD
         obtain ⟨ad103, e103, hx103_0⟩ := Kd.at_int HR0.out x5_1 p103 q103
         cases e103
         replace hx103_0 := (HB.out.cell (World.block_lt_of_cell? w _ hx103_0)).trans hx103_0
         replace p103 := eq_true p103
         replace q103 := eq_true q103
         go_wp2
         repeat (go_quiet (fail); try go_wp2)
         go_roundg k1
         case measure => have := HK1.out; omega
         case rel => exact ⟨(wrap64 (x5_1 + 1)), bS, H', ⟨by have := HK1.out; omega⟩, ⟨bB⟩⟩
      ·rw [if_neg c6] at H
       exact absurd H (by simp)
     ·rw [if_neg c5] at H
      exact absurd H (by simp)
    ·rw [if_neg c4] at H
     have c4b0 : decide (x5_1 < (l0.length : Int)) = false := decide_eq_false c4
     clear c4
     replace H := Option.bind_eq_some_iff.mp H
     obtain ⟨t104, A90, H⟩ := H
     replace H : (ferruleref13_Truths.l1 k1 l1 t104 ([] : List Bool) 0) = some r := H
     have A9 := Aside0.mk A90
     clear A90
     have H' := Aside0.mk H
     clear H
     go_wp2_with (first | (go_at_call 70; (with_reducible refine (ferruleref13_All.calls k1 _ _ l0 t104 _ ?side1 ?side2 A9.out).mono ?_); (case side1 => exact sW (Kd.C_below HR0.out HB.out)); (case side2 => exact HC0.out); rintro e w10 ⟨v105, rfl, ho0, hb⟩; have HO106 := aL ho0 HB; replace HB := aB HB hb; (try clear hb); (try clear hb2); (try clear hk); (try clear hi); (try clear ho0)))
     repeat (go_quiet (first | (go_at_call 70; (with_reducible refine (ferruleref13_All.calls k1 _ _ l0 t104 _ ?side1 ?side2 A9.out).mono ?_); (case side1 => exact sW (Kd.C_below HR0.out HB.out)); (case side2 => exact HC0.out); rintro e w10 ⟨v105, rfl, ho0, hb⟩; have HO106 := aL ho0 HB; replace HB := aB HB hb; (try clear hb); (try clear hb2); (try clear hk); (try clear hi); (try clear ho0))); try go_wp2_with (first | (go_at_call 70; (with_reducible refine (ferruleref13_All.calls k1 _ _ l0 t104 _ ?side1 ?side2 A9.out).mono ?_); (case side1 => exact sW (Kd.C_below HR0.out HB.out)); (case side2 => exact HC0.out); rintro e w10 ⟨v105, rfl, ho0, hb⟩; have HO106 := aL ho0 HB; replace HB := aB HB hb; (try clear hb); (try clear hb2); (try clear hk); (try clear hi); (try clear ho0))))
     go_loopg [7, 8] k1 (fun kq v7 v8 w' => ∃ (x7_2 : List Bool) (x8_2 : Int), v8 = .int .i64 x8_2 ∧ Aside0 (ferruleref13_Truths.l1 kq l1 t104 x7_2 x8_2 = some r) ∧ Aside0 (kq ≤ k1) ∧ Aside0 (Kd.R k111 111 w' w.heap.size (fun _ => True) v105 t104) ∧ Aside0 (Kd.R Kd.bool 4 w' w.heap.size (fun _ => True) v7 x7_2) ∧ Aside0 (Below w.heap.size w w'))
     case atStart => exact ⟨(([] : List Bool)), (0), bS, H', ⟨Nat.le_refl _⟩, ⟨aRw HO106⟩, ⟨by first | exact Kd.R_nil _ _ _ _ _ | exact Kd.N_nil _ _ _ _ _ | exact Kd.V_nil _ _ _ _ _ | exact Kd.Q_nil _ _ _ _ _ | exact Kd.S_nil _ _ _ _ _⟩, ⟨bB⟩⟩
     case round =>
      clear H'
      try clear c1
      try clear p1
      try clear q1
      try clear hx1
      try clear p2
      try clear c3
      try clear c3b0
      try clear c3b1
      try clear c3b2
      try clear c4
      try clear c4b0
      try clear c5
      try clear c5b0
      try clear c6
      try clear c6b0
      try clear p6
      try clear c7
      try clear c7b0
      try clear c8
      try clear c8b0
      try clear p10
      try clear q10
      try clear hx10
      try clear hx101_0
      try clear hx102_0
      try clear hx103_0
      try clear p101
      try clear p102
      try clear p103
      try clear p2
      try clear q101
      try clear q102
      try clear q103
      obtain ⟨x7_2, x8_2, rfl, HA, HK2, HO_6, HO_7, HB⟩ := hrel
      cases gk with
      | zero => exact absurd HA.out (by simp [ferruleref13_Truths.l1])
      | succ k2 =>
       have H := HA.out
       clear HA
       simp only [ferruleref13_Truths.l1] at H
       by_cases c11 : x8_2 < (t104.length : Int)
       ·rw [if_pos c11] at H
        have c11b0 : decide (x8_2 < (t104.length : Int)) = true := decide_eq_true c11
        clear c11
        by_cases c12 : 0 ≤ x8_2
        ·rw [if_pos c12] at H
         have c12b0 : decide (0 ≤ x8_2) = true := decide_eq_true c12
         clear c12
         replace H := Option.bind_eq_some_iff.mp H
         obtain ⟨t108, A130, H⟩ := H
         replace H : (if x7_2.length < 140737488355328 then (ferruleref13_Truths.l1 k2 l1 t104 (x7_2 ++ [t108]) (wrap64 (x8_2 + 1))) else (none)) = some r := H
         have A13 := Aside0.mk A130
         clear A130
         by_cases c14 : x7_2.length < 140737488355328
         ·rw [if_pos c14] at H
          have LMc14 := Aside0.mk c14
          clear c14
          obtain ⟨y109, hy109⟩ : ∃ y_ : List Bool, y_ = (x7_2 ++ [t108]) := ⟨_, rfl⟩
          replace H : (ferruleref13_Truths.l1 k2 l1 t104 y109 (wrap64 (x8_2 + 1))) = some r := by first | (rw [hy109]; with_reducible exact H) | (have H2_ := (Option.bind_some _ _).symm.trans H; rw [hy109]; with_reducible exact H2_) | (have H2_ := (Option.bind_some _ _).symm.trans H; with_reducible exact H2_) | with_reducible exact H | (rw [hy109]; exact H) | exact H
          have Ny109 := Aside0.mk hy109
          clear hy109
          have H' := Aside0.mk H
          clear H
          obtain ⟨Ao15, co15, eo15⟩ := Kd.R_slice HO_6.out
          subst eo15
          have p107 : 0 ≤ (x8_2 : Int) := oD
          have q107 : x8_2 < (t104.length : Int) := oD
          obtain ⟨ad107, e107, hx107_0, hx107_1, hx107_2⟩ := at_T111 (Kd.R_reads' HO_6.out).2.2 x8_2 p107 q107
          cases e107
          replace p107 := eq_true p107
          replace q107 := eq_true q107
          go_wp2_with (first | (go_at_call 71; (with_reducible refine (ferruleref13_Is.calls ((rd_T111 t104 x8_2).f0) ((rd_T111 t104 x8_2).f1) ((rd_T111 t104 x8_2).f2) _ _ l1 t108 _ ?side1 ?side2 A13.out).mono ?_); (case side1 => exact sW (Kd.C_below HR1.out HB.out)); (case side2 => exact HC1.out); rintro e w16 ⟨rfl, hb⟩; replace HO_6 := aR HO_6 hb; replace HO_7 := aR HO_7 hb; replace HB := aB HB hb; (try clear hb); (try clear hb2); (try clear hk); (try clear hi)) | ((with_reducible refine gate_builtin (b := .append) (xs := #[.tmp 44, .tmp 51]) rfl ?_); at_builtin; refine Kd.R_append Kd.bool (w0 := w) w.heap.size rfl (.tmp 44) (.tmp 51) 65 4 (.bool false) 1 rfl Try.underlying65 info4 rfl (by decide) (by omega) u7 x7_2 t108 [.bool t108] (fun _ => True) (fun _ => False) rfl rfl ?aP (fun _ hk => hk.elim) ?aF ?aO ?aB ?aS ?aL ?_; (case aP => exact rfl); (case aB => exact bB); (case aF => exact (fun _ _ => trivial)); (case aO => exact (aRw HO_7)); (case aS => exact (below_size bB)); (case aL => have := LMc14.out; omega); intro v110 w17 ho hb hg hat; rw [← Ny109.out] at ho; replace HO_6 := Aside0.mk (Kd.R_over' (aRw HO_6) (Kd.R_typed (aRw HO_7)) (by decide) hg); replace HB := Aside0.mk hb; have HO111 := Aside0.mk ho; clear HO_7; clear ho hb hg hat))
          repeat (go_quiet (first | (go_at_call 71; (with_reducible refine (ferruleref13_Is.calls ((rd_T111 t104 x8_2).f0) ((rd_T111 t104 x8_2).f1) ((rd_T111 t104 x8_2).f2) _ _ l1 t108 _ ?side1 ?side2 A13.out).mono ?_); (case side1 => exact sW (Kd.C_below HR1.out HB.out)); (case side2 => exact HC1.out); rintro e w16 ⟨rfl, hb⟩; replace HO_6 := aR HO_6 hb; replace HO_7 := aR HO_7 hb; replace HB := aB HB hb; (try clear hb); (try clear hb2); (try clear hk); (try clear hi)) | ((with_reducible refine gate_builtin (b := .append) (xs := #[.tmp 44, .tmp 51]) rfl ?_); at_builtin; refine Kd.R_append Kd.bool (w0 := w) w.heap.size rfl (.tmp 44) (.tmp 51) 65 4 (.bool false) 1 rfl Try.underlying65 info4 rfl (by decide) (by omega) u7 x7_2 t108 [.bool t108] (fun _ => True) (fun _ => False) rfl rfl ?aP (fun _ hk => hk.elim) ?aF ?aO ?aB ?aS ?aL ?_; (case aP => exact rfl); (case aB => exact bB); (case aF => exact (fun _ _ => trivial)); (case aO => exact (aRw HO_7)); (case aS => exact (below_size bB)); (case aL => have := LMc14.out; omega); intro v110 w17 ho hb hg hat; rw [← Ny109.out] at ho; replace HO_6 := Aside0.mk (Kd.R_over' (aRw HO_6) (Kd.R_typed (aRw HO_7)) (by decide) hg); replace HB := Aside0.mk hb; have HO111 := Aside0.mk ho; clear HO_7; clear ho hb hg hat)); try go_wp2_with (first | (go_at_call 71; (with_reducible refine (ferruleref13_Is.calls ((rd_T111 t104 x8_2).f0) ((rd_T111 t104 x8_2).f1) ((rd_T111 t104 x8_2).f2) _ _ l1 t108 _ ?side1 ?side2 A13.out).mono ?_); (case side1 => exact sW (Kd.C_below HR1.out HB.out)); (case side2 => exact HC1.out); rintro e w16 ⟨rfl, hb⟩; replace HO_6 := aR HO_6 hb; replace HO_7 := aR HO_7 hb; replace HB := aB HB hb; (try clear hb); (try clear hb2); (try clear hk); (try clear hi)) | ((with_reducible refine gate_builtin (b := .append) (xs := #[.tmp 44, .tmp 51]) rfl ?_); at_builtin; refine Kd.R_append Kd.bool (w0 := w) w.heap.size rfl (.tmp 44) (.tmp 51) 65 4 (.bool false) 1 rfl Try.underlying65 info4 rfl (by decide) (by omega) u7 x7_2 t108 [.bool t108] (fun _ => True) (fun _ => False) rfl rfl ?aP (fun _ hk => hk.elim) ?aF ?aO ?aB ?aS ?aL ?_; (case aP => exact rfl); (case aB => exact bB); (case aF => exact (fun _ _ => trivial)); (case aO => exact (aRw HO_7)); (case aS => exact (below_size bB)); (case aL => have := LMc14.out; omega); intro v110 w17 ho hb hg hat; rw [← Ny109.out] at ho; replace HO_6 := Aside0.mk (Kd.R_over' (aRw HO_6) (Kd.R_typed (aRw HO_7)) (by decide) hg); replace HB := Aside0.mk hb; have HO111 := Aside0.mk ho; clear HO_7; clear ho hb hg hat)))
          go_roundg k2
          case measure => have := HK1.out; have := HK2.out; omega
          case rel => exact ⟨(y109), (wrap64 (x8_2 + 1)), bS, H', ⟨by have := HK1.out; have := HK2.out; omega⟩, ⟨aRw HO_6⟩, ⟨aRw HO111⟩, ⟨bB⟩⟩
         ·rw [if_neg c14] at H
          exact absurd H (by simp)
        ·rw [if_neg c12] at H
         exact absurd H (by simp)
       ·rw [if_neg c11] at H
        have c11b0 : decide (x8_2 < (t104.length : Int)) = false := decide_eq_false c11
        clear c11
        obtain rfl := Option.some.inj H
        obtain ⟨Ao18, co18, eo18⟩ := Kd.R_slice HO_6.out
        subst eo18
        go_wp2
        repeat (go_quiet (fail); try go_wp2)
        go_ret
        exact ⟨_, by first | rfl | (simp [errW_none, errW_some] <;> rfl) | (simp [*, errW_none, errW_some] <;> rfl), aRw HO_7, bB⟩
 ·rw [if_neg c3] at H
  have c3b0 : ((l1.length : Int) == (l0.length : Int)) = false := beq_eq_false_iff_ne.mpr c3
  have c3b1 : ((l1.length : Int) != (l0.length : Int)) = true := bne_iff_ne.mpr c3
  have c3b2 : (l1.length == l0.length) = false := by first | simpa using c3 | (simp at c3 ⊢; omega)
  obtain rfl := Option.some.inj H
  go_enter Try.func36, Try.ntmps36
  go_wp2
  repeat (go_quiet (fail); try go_wp2)
  go_ret
  exact ⟨_, by first | rfl | (simp [errW_none, errW_some] <;> rfl) | (simp [*, errW_none, errW_some] <;> rfl), by first | exact Kd.R_nil _ _ _ _ _ | exact Kd.N_nil _ _ _ _ _ | exact Kd.V_nil _ _ _ _ _ | exact Kd.Q_nil _ _ _ _ _ | exact Kd.S_nil _ _ _ _ _, bB⟩

end Go.Proofs.Ytcebjhbphcoboaa.X
