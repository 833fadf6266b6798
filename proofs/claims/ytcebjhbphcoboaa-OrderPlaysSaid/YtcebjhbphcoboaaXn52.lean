-- Written by a program of this session (wip/xp), out of the translation. Not trusted: Lean checks it.
import Derived.Test.YtcebjhbphcoboaaX0
import Derived.Test.YtcebjhbphcoboaaXn70
import Derived.Test.YtcebjhbphcoboaaXn47
import Derived.Test.YtcebjhbphcoboaaXn48
import Derived.Test.YtcebjhbphcoboaaXm
-- shrunk
namespace Go.Proofs.Ytcebjhbphcoboaa.X
open Go.RowKit Go.Proofs.YtcebjhbphcoboaaW.PrintWords Go.Proofs.YtcebjhbphcoboaaW.PrintLast Go.Proofs.YtcebjhbphcoboaaW.PrintMore
attribute [local go_sem] Lab.str_gtr Lab.str_leq Lab.str_geq max2_int min2_int max_two min_two max_three min_three max_four min_four   -- for this text's walks alone
set_option linter.unusedVariables false
set_option linter.unusedSimpArgs false

/-! ### ferruleref15_Implied: function 52 -/
mutual
def ferruleref15_Implied.j0 : Nat → List Int → List Int → Int → List Int → Bool → Option (List Int)
 | 0, _, _, _, _, _ => none
 | k + 1, x0, x1, x2, x7, x19 => if x19 = true then (some ([] : List Int)) else ((ferruleref15_Of.f k x0 x2 x1).bind fun t101 => ((ferruleref13_All.f k x0).bind fun t104 => (ferruleref15_Implied.l0 k x0 x2 x7 t101 t104 1)))
def ferruleref15_Implied.l0 : Nat → List Int → Int → List Int → List Int → List (S111) → Int → Option (List Int)
 | 0, _, _, _, _, _, _ => none
 | k + 1, x0, x2, x7, x8, x9, x10 => if x10 ≤ (x9.length : Int) then (if 0 ≤ (wrap64 (x10 - 1)) then (if (wrap64 (x10 - 1)) < (x9.length : Int) then (if ((rd_T111 x9 (wrap64 (x10 - 1))).f1) = x2 then (ferruleref15_Implied.l1 k x0 x2 x7 x8 x9 x10 1) else (ferruleref15_Implied.l0 k x0 x2 x7 x8 x9 (wrap64 (x10 + 1)))) else (none)) else (none)) else (some x7)
def ferruleref15_Implied.l1 : Nat → List Int → Int → List Int → List Int → List (S111) → Int → Int → Option (List Int)
 | 0, _, _, _, _, _, _, _ => none
 | k + 1, x0, x2, x7, x8, x9, x10, x11 => if x11 ≥ (-1) then ((ferruleref12_Has.f k x8 (wrap64 (x11 * x10))).bind fun t108 => (if t108 = true then (ferruleref15_Implied.l1 k x0 x2 x7 x8 x9 x10 (wrap64 (x11 - 2))) else ((some (([] : List Int) : List Int)).bind fun y109 => (if y109.length + x8.length < 17592186044416 then ((some (y109 ++ x8 : List Int)).bind fun y112 => (if y112.length < 17592186044416 then ((ferruleref15_Allowed.f k x0 x2 (y112 ++ [wrap64 (-(wrap64 (x11 * x10)))])).bind fun t118 => (if (t118.length : Int) = 0 then (if x7.length < 17592186044416 then (ferruleref15_Implied.l1 k x0 x2 (x7 ++ [wrap64 (x11 * x10)]) x8 x9 x10 (wrap64 (x11 - 2))) else (none)) else (ferruleref15_Implied.l1 k x0 x2 x7 x8 x9 x10 (wrap64 (x11 - 2))))) else (none))) else (none))))) else (ferruleref15_Implied.l0 k x0 x2 x7 x8 x9 (wrap64 (x10 + 1)))
end
def ferruleref15_Implied.f (k : Nat) (l0 : List Int) (l1 : List Int) (a2 : Int) : Option (List Int) := if a2 < 0 then (ferruleref15_Implied.j0 k l0 l1 a2 ([] : List Int) true) else (ferruleref15_Implied.j0 k l0 l1 a2 ([] : List Int) (decide (a2 ≥ (l0.length : Int))))
theorem ferruleref15_Implied.mono_l : ∀ k, (∀ y0 y1 y2 y3 y4, LeO (ferruleref15_Implied.j0 k y0 y1 y2 y3 y4) (ferruleref15_Implied.j0 (k + 1) y0 y1 y2 y3 y4)) ∧ (∀ y0 y1 y2 y3 y4 y5, LeO (ferruleref15_Implied.l0 k y0 y1 y2 y3 y4 y5) (ferruleref15_Implied.l0 (k + 1) y0 y1 y2 y3 y4 y5)) ∧ (∀ y0 y1 y2 y3 y4 y5 y6, LeO (ferruleref15_Implied.l1 k y0 y1 y2 y3 y4 y5 y6) (ferruleref15_Implied.l1 (k + 1) y0 y1 y2 y3 y4 y5 y6))
 | 0 => ⟨fun _ _ _ _ _ r h => by simp [ferruleref15_Implied.j0] at h, fun _ _ _ _ _ _ r h => by simp [ferruleref15_Implied.l0] at h, fun _ _ _ _ _ _ _ r h => by simp [ferruleref15_Implied.l1] at h⟩
 | k + 1 => by
  obtain ⟨ih0, ih1, ih2⟩ := ferruleref15_Implied.mono_l k
  refine ⟨?_, ?_, ?_⟩
  ·intro y0 y1 y2 y3 y4
   unfold ferruleref15_Implied.j0
   repeat' first
   | (with_reducible exact ih0 _ _ _ _ _)
   | (with_reducible exact ih1 _ _ _ _ _ _)
   | (with_reducible exact ih2 _ _ _ _ _ _ _)
   | (with_reducible exact ferruleref12_Has.mono _ _ _)
   | (with_reducible exact ferruleref13_All.mono _ _)
   | (with_reducible exact ferruleref15_Allowed.mono _ _ _ _)
   | (with_reducible exact ferruleref15_Of.mono _ _ _ _)
   | (with_reducible exact LeO.refl _)
   | (with_reducible exact LeO.none _)
   | (with_reducible refine LeO.ite ?_ ?_)
   | (with_reducible refine LeO.bind ?_ (fun _ => ?_))
   | exact ih0 _ _ _ _ _
   | exact ih1 _ _ _ _ _ _
   | exact ih2 _ _ _ _ _ _ _
   | exact ferruleref12_Has.mono _ _ _
   | exact ferruleref13_All.mono _ _
   | exact ferruleref15_Allowed.mono _ _ _ _
   | exact ferruleref15_Of.mono _ _ _ _
   | exact LeO.none _
   | refine LeO.ite ?_ ?_
   | refine LeO.bind ?_ (fun _ => ?_)
  ·intro y0 y1 y2 y3 y4 y5
   unfold ferruleref15_Implied.l0
   repeat' first
   | (with_reducible exact ih0 _ _ _ _ _)
   | (with_reducible exact ih1 _ _ _ _ _ _)
   | (with_reducible exact ih2 _ _ _ _ _ _ _)
   | (with_reducible exact ferruleref12_Has.mono _ _ _)
   | (with_reducible exact ferruleref13_All.mono _ _)
   | (with_reducible exact ferruleref15_Allowed.mono _ _ _ _)
   | (with_reducible exact ferruleref15_Of.mono _ _ _ _)
   | (with_reducible exact LeO.refl _)
   | (with_reducible exact LeO.none _)
   | (with_reducible refine LeO.ite ?_ ?_)
   | (with_reducible refine LeO.bind ?_ (fun _ => ?_))
   | exact ih0 _ _ _ _ _
   | exact ih1 _ _ _ _ _ _
   | exact ih2 _ _ _ _ _ _ _
   | exact ferruleref12_Has.mono _ _ _
   | exact ferruleref13_All.mono _ _
   | exact ferruleref15_Allowed.mono _ _ _ _
   | exact ferruleref15_Of.mono _ _ _ _
   | exact LeO.none _
   | refine LeO.ite ?_ ?_
   | refine LeO.bind ?_ (fun _ => ?_)
  ·intro y0 y1 y2 y3 y4 y5 y6
   unfold ferruleref15_Implied.l1
   repeat' first
   | (with_reducible exact ih0 _ _ _ _ _)
   | (with_reducible exact ih1 _ _ _ _ _ _)
   | (with_reducible exact ih2 _ _ _ _ _ _ _)
   | (with_reducible exact ferruleref12_Has.mono _ _ _)
   | (with_reducible exact ferruleref13_All.mono _ _)
   | (with_reducible exact ferruleref15_Allowed.mono _ _ _ _)
   | (with_reducible exact ferruleref15_Of.mono _ _ _ _)
   | (with_reducible exact LeO.refl _)
   | (with_reducible exact LeO.none _)
   | (with_reducible refine LeO.ite ?_ ?_)
   | (with_reducible refine LeO.bind ?_ (fun _ => ?_))
   | exact ih0 _ _ _ _ _
   | exact ih1 _ _ _ _ _ _
   | exact ih2 _ _ _ _ _ _ _
   | exact ferruleref12_Has.mono _ _ _
   | exact ferruleref13_All.mono _ _
   | exact ferruleref15_Allowed.mono _ _ _ _
   | exact ferruleref15_Of.mono _ _ _ _
   | exact LeO.none _
   | refine LeO.ite ?_ ?_
   | refine LeO.bind ?_ (fun _ => ?_)
theorem ferruleref15_Implied.mono : ∀ a0 a1 a2 k, LeO (ferruleref15_Implied.f k a0 a1 a2) (ferruleref15_Implied.f (k + 1) a0 a1 a2) := by
 intro a0 a1 a2 k
 obtain ⟨ih0, ih1, ih2⟩ := ferruleref15_Implied.mono_l k
 unfold ferruleref15_Implied.f
 repeat' first
   | (with_reducible exact ih0 _ _ _ _ _)
   | (with_reducible exact ih1 _ _ _ _ _ _)
   | (with_reducible exact ih2 _ _ _ _ _ _ _)
   | (with_reducible exact ferruleref12_Has.mono _ _ _)
   | (with_reducible exact ferruleref13_All.mono _ _)
   | (with_reducible exact ferruleref15_Allowed.mono _ _ _ _)
   | (with_reducible exact ferruleref15_Of.mono _ _ _ _)
   | (with_reducible exact LeO.refl _)
   | (with_reducible exact LeO.none _)
   | (with_reducible refine LeO.ite ?_ ?_)
   | (with_reducible refine LeO.bind ?_ (fun _ => ?_))
   | exact ih0 _ _ _ _ _
   | exact ih1 _ _ _ _ _ _
   | exact ih2 _ _ _ _ _ _ _
   | exact ferruleref12_Has.mono _ _ _
   | exact ferruleref13_All.mono _ _
   | exact ferruleref15_Allowed.mono _ _ _ _
   | exact ferruleref15_Of.mono _ _ _ _
   | exact LeO.none _
   | refine LeO.ite ?_ ?_
   | refine LeO.bind ?_ (fun _ => ?_)
set_option maxHeartbeats 8000000 in
set_option maxRecDepth 100000 in
theorem ferruleref15_Implied.calls (k : Nat) (A0 : Option Addr) (c0 : Nat) (l0 : List Int) (A1 : Option Addr) (c1 : Nat) (l1 : List Int) (a2 : Int) (r : List Int) (w : World) (hr0 : Kd.C (Kd.int .i64) w A0 l0.length l0) (hc0 : l0.length ≤ c0) (hr1 : Kd.C (Kd.int .i64) w A1 l1.length l1) (hc1 : l1.length ≤ c1) (h : ferruleref15_Implied.f k l0 l1 a2 = some r) :
  Calls Try.prog 52 #[.slice A0 l0.length c0, .slice A1 l1.length c1, .int .i64 a2] w fun e w' => ∃ v0_ : Value, e = .returned (v0_) ∧ Kd.R (Kd.int .i64) 3 w' w.heap.size (fun _ => True) v0_ r ∧ Below w.heap.size w w' := by
 have HR0 := Aside0.mk hr0
 have HC0 := Aside0.mk hc0
 clear hr0 hc0
 have HR1 := Aside0.mk hr1
 have HC1 := Aside0.mk hc1
 clear hr1 hc1
 have HB := Aside0.mk (Below.refl w.heap.size w)
 have H : (if a2 < 0 then (ferruleref15_Implied.j0 k l0 l1 a2 ([] : List Int) true) else (ferruleref15_Implied.j0 k l0 l1 a2 ([] : List Int) (decide (a2 ≥ (l0.length : Int))))) = some r := h
 clear h
 have HC4 := Aside0.mk H
 clear H
 go_enter Try.func52, Try.ntmps52
 go_upto_region 2 with (fail)
 go_cut [19] (fun v19 wc => ∃ (kq : Nat) (x19_3 : Bool), v19 = .bool x19_3 ∧ Aside0 (ferruleref15_Implied.j0 kq l0 l1 a2 ([] : List Int) x19_3 = some r) ∧ Aside0 (kq ≤ k) ∧ Aside0 (Kd.R (Kd.int .i64) 3 wc w.heap.size (fun _ => True) (.slice none 0 0) ([] : List Int)) ∧ Aside0 (Below w.heap.size w wc))
 case first =>
  have H := HC4.out
  clear HC4
  by_cases c5 : a2 < 0
  ·rw [if_pos c5] at H
   have c5b0 : decide (a2 < 0) = true := decide_eq_true c5
   clear c5
   (first | rw [c5b0] | (simp only [i64_w, i32_w]; rw [c5b0]) | skip)
   have H' := Aside0.mk H
   clear H
   go_wp2
   go_meet
   case rel => exact ⟨_, (true), bS, H', ⟨by first | omega | exact Nat.le_refl _⟩, ⟨by first | exact Kd.R_nil _ _ _ _ _ | exact Kd.N_nil _ _ _ _ _ | exact Kd.V_nil _ _ _ _ _ | exact Kd.Q_nil _ _ _ _ _ | exact Kd.S_nil _ _ _ _ _⟩, ⟨bB⟩⟩
  ·rw [if_neg c5] at H
   have c5b0 : decide (a2 < 0) = false := decide_eq_false c5
   clear c5
   (first | rw [c5b0] | (simp only [i64_w, i32_w]; rw [c5b0]) | skip)
   have H' := Aside0.mk H
   clear H
   go_wp2
   go_meet
   case rel => exact ⟨_, (decide (a2 ≥ (l0.length : Int))), bS, H', ⟨by first | omega | exact Nat.le_refl _⟩, ⟨by first | exact Kd.R_nil _ _ _ _ _ | exact Kd.N_nil _ _ _ _ _ | exact Kd.V_nil _ _ _ _ _ | exact Kd.Q_nil _ _ _ _ _ | exact Kd.S_nil _ _ _ _ _⟩, ⟨bB⟩⟩
 case rest =>
  clear HC4
  try clear c1
  try clear p2
  try clear c5
  try clear c5b0
  obtain ⟨kq, x19_3, rfl, HA, HJ3, HO_7, HB⟩ := hcut
  cases kq with
  | zero => exact absurd HA.out (by simp [ferruleref15_Implied.j0])
  | succ kj3 =>
   have H := HA.out
   clear HA
   simp only [ferruleref15_Implied.j0] at H
   by_cases c6 : x19_3 = true
   ·subst c6
    have H1 : (some ([] : List Int)) = some r := by rw [if_pos rfl] at H; exact H
    clear H
    have H := H1
    clear H1
    obtain rfl := Option.some.inj H
    go_wp2
    go_ret
    exact ⟨_, by first | rfl | (simp [errW_none, errW_some] <;> rfl) | (simp [*, errW_none, errW_some] <;> rfl), by first | exact Kd.R_nil _ _ _ _ _ | exact Kd.N_nil _ _ _ _ _ | exact Kd.V_nil _ _ _ _ _ | exact Kd.Q_nil _ _ _ _ _ | exact Kd.S_nil _ _ _ _ _, bB⟩
   ·replace c6 := Bool.eq_false_iff.mpr c6
    subst c6
    have H1 : ((ferruleref15_Of.f kj3 l0 a2 l1).bind fun t101 => ((ferruleref13_All.f kj3 l0).bind fun t104 => (ferruleref15_Implied.l0 kj3 l0 a2 ([] : List Int) t101 t104 1))) = some r := by rw [if_neg (show ¬ (false = true) by decide)] at H; exact H
    clear H
    have H := H1
    clear H1
    replace H := Option.bind_eq_some_iff.mp H
    obtain ⟨t101, A70, H⟩ := H
    replace H : ((ferruleref13_All.f kj3 l0).bind fun t104 => (ferruleref15_Implied.l0 kj3 l0 a2 ([] : List Int) t101 t104 1)) = some r := H
    have A7 := Aside0.mk A70
    clear A70
    replace H := Option.bind_eq_some_iff.mp H
    obtain ⟨t104, A80, H⟩ := H
    replace H : (ferruleref15_Implied.l0 kj3 l0 a2 ([] : List Int) t101 t104 1) = some r := H
    have A8 := Aside0.mk A80
    clear A80
    have H' := Aside0.mk H
    clear H
    go_wp2_with (first | ((with_reducible refine gate_callee (f := 48) rfl ?_); refine goesL_ (some 23) rfl rfl Try.func48 (by kernel_rfl) rfl #[.slice A0 l0.length c0, .int .i64 a2, .slice A1 l1.length c1] rfl bM ?_; (with_reducible refine (ferruleref15_Of.calls kj3 _ _ l0 a2 _ _ l1 t101 _ ?side1 ?side2 ?side3 ?side4 A7.out).mono ?_); (case side1 => exact sW (Kd.C_below HR0.out HB.out)); (case side2 => exact HC0.out); (case side3 => exact sW (Kd.C_below HR1.out HB.out)); (case side4 => exact HC1.out); rintro e w9 ⟨v102, rfl, ho0, hb⟩; refine ⟨_, rfl, ?_⟩; have HO103 := aN ho0 HO_7 HB; replace HO_7 := aE HO_7 ho0 hb; replace HB := aB HB hb; (try clear hb); (try clear hb2); (try clear hk); (try clear hi); (try clear ho0)) | ((with_reducible refine gate_callee (f := 70) rfl ?_); refine goesL_ (some 25) rfl rfl Try.func70 (by kernel_rfl) rfl #[.slice A0 l0.length c0] rfl bM ?_; (with_reducible refine (ferruleref13_All.calls kj3 _ _ l0 t104 _ ?side1 ?side2 A8.out).mono ?_); (case side1 => exact sW (Kd.C_below HR0.out HB.out)); (case side2 => exact HC0.out); rintro e w10 ⟨v105, rfl, ho0, hb⟩; refine ⟨_, rfl, ?_⟩; replace HO_7 := aR HO_7 hb; replace HO103 := aR HO103 hb; have HO106 := aL ho0 HB; replace HB := aB HB hb; (try clear hb); (try clear hb2); (try clear hk); (try clear hi); (try clear ho0)))
    go_loopg [7, 10] kj3 (fun kq v7 v10 w' => ∃ (x7_2 : List Int) (x10_2 : Int), v10 = .int .i64 x10_2 ∧ Aside0 (ferruleref15_Implied.l0 kq l0 a2 x7_2 t101 t104 x10_2 = some r) ∧ Aside0 (kq ≤ kj3) ∧ Aside0 (Kd.R (Kd.int .i64) 3 w' w.heap.size (fun k_ => some k_ ≠ (v102 : Value).ownBlock) v7 x7_2) ∧ Aside0 (Kd.R (Kd.int .i64) 3 w' w.heap.size (fun k_ => some k_ ≠ (v7 : Value).ownBlock) v102 t101) ∧ Aside0 (Kd.R k111 111 w' w.heap.size (fun _ => True) v105 t104) ∧ Aside0 (Below w.heap.size w w'))
    case atStart => exact ⟨(([] : List Int)), (1), bS, H', ⟨Nat.le_refl _⟩, ⟨by (with_reducible repeat (first | apply Kd.R_alloc | apply Kd.R_drewN | apply Kd.R_drew)); exact Kd.R_mono HO_7.out (fun _ hk => hk.2)⟩, ⟨by (with_reducible repeat (first | apply Kd.R_alloc | apply Kd.R_drewN | apply Kd.R_drew)); exact Kd.R_mono HO103.out (fun _ hk => hk.2)⟩, ⟨aRw HO106⟩, ⟨bB⟩⟩
    case round =>
     clear H'
     try clear c1
     try clear p2
     try clear c4
     try clear c5
     try clear c5b0
     try clear c6
     try clear p6
     try clear c7
     try clear p2
     obtain ⟨x7_2, x10_2, rfl, HA, HK2, HO_7, HO_8, HO_9, HB⟩ := hrel
     cases gk with
     | zero => exact absurd HA.out (by simp [ferruleref15_Implied.l0])
     | succ k2 =>
      have H := HA.out
      clear HA
      simp only [ferruleref15_Implied.l0] at H
      by_cases c11 : x10_2 ≤ (t104.length : Int)
      ·rw [if_pos c11] at H
       have c11b0 : decide (x10_2 ≤ (t104.length : Int)) = true := decide_eq_true c11
       clear c11
       obtain ⟨ji12, hji12⟩ : ∃ j_ : Int, (wrap64 (x10_2 - 1)) = j_ := ⟨_, rfl⟩
       replace H : (if 0 ≤ (ji12) then (if (ji12) < (t104.length : Int) then (if ((rd_T111 t104 (ji12)).f1) = a2 then (ferruleref15_Implied.l1 k2 l0 a2 x7_2 t101 t104 x10_2 1) else (ferruleref15_Implied.l0 k2 l0 a2 x7_2 t101 t104 (wrap64 (x10_2 + 1)))) else (none)) else (none)) = some r := by first | (rw [hji12] at H; exact H) | (simp only [hji12] at H ⊢; exact H)
       have hji12w : (IntKind.i64.wrap (x10_2 - 1)) = ji12 := (i64_w _).trans hji12
       by_cases c13 : 0 ≤ (ji12)
       ·rw [if_pos c13] at H
        have c13b0 : decide (0 ≤ (ji12)) = true := decide_eq_true c13
        clear c13
        by_cases c14 : (ji12) < (t104.length : Int)
        ·rw [if_pos c14] at H
         have c14b0 : decide ((ji12) < (t104.length : Int)) = true := decide_eq_true c14
         clear c14
         by_cases c15 : ((rd_T111 t104 (ji12)).f1) = a2
         ·rw [if_pos c15] at H
          have c15b0 : (((rd_T111 t104 (ji12)).f1) == a2) = true := beq_iff_eq.mpr c15
          have c15b1 : (((rd_T111 t104 (ji12)).f1) != a2) = false := bne_eq_false_iff_eq.mpr c15
          clear c15
          have H' := Aside0.mk H
          clear H
          obtain ⟨Ao16, co16, eo16⟩ := Kd.R_slice HO_9.out
          subst eo16
          have p107 : 0 ≤ ((ji12) : Int) := oD
          have q107 : (ji12) < (t104.length : Int) := oD
          obtain ⟨ad107, e107, hx107_0, hx107_1, hx107_2⟩ := at_T111 (Kd.R_reads' HO_9.out).2.2 (ji12) p107 q107
          cases e107
          replace p107 := eq_true p107
          replace q107 := eq_true q107
          go_wp2
          go_loopg [7, 11] k2 (fun kq v7 v11 w' => ∃ (x7_3 : List Int) (x11_3 : Int), v11 = .int .i64 x11_3 ∧ Aside0 (ferruleref15_Implied.l1 kq l0 a2 x7_3 t101 t104 x10_2 x11_3 = some r) ∧ Aside0 (kq ≤ k2) ∧ Aside0 (Kd.R (Kd.int .i64) 3 w' w.heap.size (fun k_ => some k_ ≠ (v102 : Value).ownBlock) v7 x7_3) ∧ Aside0 (Kd.R (Kd.int .i64) 3 w' w.heap.size (fun k_ => some k_ ≠ (v7 : Value).ownBlock) v102 t101) ∧ Aside0 (Kd.R k111 111 w' w.heap.size (fun _ => True) (.slice (some ad107) t104.length co16) t104) ∧ Aside0 (Below w.heap.size w w'))
          case atStart => exact ⟨(x7_2), (1), bS, H', ⟨Nat.le_refl _⟩, ⟨aRw HO_7⟩, ⟨aRw HO_8⟩, ⟨aRw HO_9⟩, ⟨bB⟩⟩
          case round =>
           clear H'
           try clear c1
           try clear p1
           try clear q1
           try clear hx1
           try clear p2
           try clear c4
           try clear c5
           try clear c5b0
           try clear c6
           try clear p6
           try clear c7
           try clear p10
           try clear q10
           try clear hx10
           try clear c11
           try clear c11b0
           try clear c13
           try clear c13b0
           try clear c14
           try clear c14b0
           try clear c15
           try clear c15b0
           try clear c15b1
           try clear hx107_0
           try clear hx107_1
           try clear hx107_2
           try clear p107
           try clear p2
           try clear p6
           try clear q107
           obtain ⟨x7_3, x11_3, rfl, HA, HK3, HO_7, HO_8, HO_9, HB⟩ := hrel
           cases gk with
           | zero => exact absurd HA.out (by simp [ferruleref15_Implied.l1])
           | succ k3 =>
            have H := HA.out
            clear HA
            simp only [ferruleref15_Implied.l1] at H
            by_cases c17 : x11_3 ≥ (-1)
            ·rw [if_pos c17] at H
             have c17b0 : decide ((-1) ≤ x11_3) = true := decide_eq_true c17
             clear c17
             replace H := Option.bind_eq_some_iff.mp H
             obtain ⟨t108, A180, H⟩ := H
             replace H : (if t108 = true then (ferruleref15_Implied.l1 k3 l0 a2 x7_3 t101 t104 x10_2 (wrap64 (x11_3 - 2))) else ((some (([] : List Int) : List Int)).bind fun y109 => (if y109.length + t101.length < 17592186044416 then ((some (y109 ++ t101 : List Int)).bind fun y112 => (if y112.length < 17592186044416 then ((ferruleref15_Allowed.f k3 l0 a2 (y112 ++ [wrap64 (-(wrap64 (x11_3 * x10_2)))])).bind fun t118 => (if (t118.length : Int) = 0 then (if x7_3.length < 17592186044416 then (ferruleref15_Implied.l1 k3 l0 a2 (x7_3 ++ [wrap64 (x11_3 * x10_2)]) t101 t104 x10_2 (wrap64 (x11_3 - 2))) else (none)) else (ferruleref15_Implied.l1 k3 l0 a2 x7_3 t101 t104 x10_2 (wrap64 (x11_3 - 2))))) else (none))) else (none)))) = some r := H
             have A18 := Aside0.mk A180
             clear A180
             by_cases c19 : t108 = true
             ·subst c19
              have H1 : (ferruleref15_Implied.l1 k3 l0 a2 x7_3 t101 t104 x10_2 (wrap64 (x11_3 - 2))) = some r := by rw [if_pos rfl] at H; exact H
              clear H
              have H := H1
              clear H1
              have H' := Aside0.mk H
              clear H
              obtain ⟨Ao20, co20, eo20⟩ := Kd.R_slice HO_8.out
              subst eo20
              go_wp2_with (first | ((with_reducible refine gate_callee (f := 83) rfl ?_); refine goesL_ (some 48) rfl rfl Try.func83 (by kernel_rfl) rfl #[.slice Ao20 t101.length co20, .int .i64 (wrap64 (x11_3 * x10_2))] rfl bM ?_; (with_reducible refine (ferruleref12_Has.calls k3 _ _ t101 (wrap64 (x11_3 * x10_2)) true _ ?side1 ?side2 A18.out).mono ?_); (case side1 => exact sW (Kd.R_reads' HO_8.out).2.2); (case side2 => exact (Kd.R_reads' HO_8.out).2.1); rintro e w' ⟨rfl, ⟨nd, rfl⟩⟩; refine ⟨_, rfl, ?_⟩))
              go_roundg k3
              case measure => have := HJ3.out; have := HK2.out; have := HK3.out; omega
              case rel => exact ⟨(x7_3), (wrap64 (x11_3 - 2)), bS, H', ⟨by have := HJ3.out; have := HK2.out; have := HK3.out; omega⟩, ⟨aRw HO_7⟩, ⟨aRw HO_8⟩, ⟨aRw HO_9⟩, ⟨bB⟩⟩
             ·replace c19 := Bool.eq_false_iff.mpr c19
              subst c19
              have H1 : ((some (([] : List Int) : List Int)).bind fun y109 => (if y109.length + t101.length < 17592186044416 then ((some (y109 ++ t101 : List Int)).bind fun y112 => (if y112.length < 17592186044416 then ((ferruleref15_Allowed.f k3 l0 a2 (y112 ++ [wrap64 (-(wrap64 (x11_3 * x10_2)))])).bind fun t118 => (if (t118.length : Int) = 0 then (if x7_3.length < 17592186044416 then (ferruleref15_Implied.l1 k3 l0 a2 (x7_3 ++ [wrap64 (x11_3 * x10_2)]) t101 t104 x10_2 (wrap64 (x11_3 - 2))) else (none)) else (ferruleref15_Implied.l1 k3 l0 a2 x7_3 t101 t104 x10_2 (wrap64 (x11_3 - 2))))) else (none))) else (none))) = some r := by rw [if_neg (show ¬ (false = true) by decide)] at H; exact H
              clear H
              have H := H1
              clear H1
              obtain ⟨y109, hy109⟩ : ∃ y_ : List Int, y_ = (([] : List Int)) := ⟨_, rfl⟩
              replace H : (if y109.length + t101.length < 17592186044416 then ((some (y109 ++ t101 : List Int)).bind fun y112 => (if y112.length < 17592186044416 then ((ferruleref15_Allowed.f k3 l0 a2 (y112 ++ [wrap64 (-(wrap64 (x11_3 * x10_2)))])).bind fun t118 => (if (t118.length : Int) = 0 then (if x7_3.length < 17592186044416 then (ferruleref15_Implied.l1 k3 l0 a2 (x7_3 ++ [wrap64 (x11_3 * x10_2)]) t101 t104 x10_2 (wrap64 (x11_3 - 2))) else (none)) else (ferruleref15_Implied.l1 k3 l0 a2 x7_3 t101 t104 x10_2 (wrap64 (x11_3 - 2))))) else (none))) else (none)) = some r := by first | (rw [hy109]; with_reducible exact H) | (have H2_ := (Option.bind_some _ _).symm.trans H; rw [hy109]; with_reducible exact H2_) | (have H2_ := (Option.bind_some _ _).symm.trans H; with_reducible exact H2_) | with_reducible exact H | (rw [hy109]; exact H) | exact H
              have Ny109 := Aside0.mk hy109
              clear hy109
              by_cases c21 : y109.length + t101.length < 17592186044416
              ·rw [if_pos c21] at H
               have LMc21 := Aside0.mk c21
               clear c21
               obtain ⟨y112, hy112⟩ : ∃ y_ : List Int, y_ = (y109 ++ t101) := ⟨_, rfl⟩
               replace H : (if y112.length < 17592186044416 then ((ferruleref15_Allowed.f k3 l0 a2 (y112 ++ [wrap64 (-(wrap64 (x11_3 * x10_2)))])).bind fun t118 => (if (t118.length : Int) = 0 then (if x7_3.length < 17592186044416 then (ferruleref15_Implied.l1 k3 l0 a2 (x7_3 ++ [wrap64 (x11_3 * x10_2)]) t101 t104 x10_2 (wrap64 (x11_3 - 2))) else (none)) else (ferruleref15_Implied.l1 k3 l0 a2 x7_3 t101 t104 x10_2 (wrap64 (x11_3 - 2))))) else (none)) = some r := by first | (rw [hy112]; with_reducible exact H) | (have H2_ := (Option.bind_some _ _).symm.trans H; rw [hy112]; with_reducible exact H2_) | (have H2_ := (Option.bind_some _ _).symm.trans H; with_reducible exact H2_) | with_reducible exact H | (rw [hy112]; exact H) | exact H
               have Ny112 := Aside0.mk hy112
               clear hy112
               by_cases c22 : y112.length < 17592186044416
               ·rw [if_pos c22] at H
                have LMc22 := Aside0.mk c22
                clear c22
                obtain ⟨y115, hy115⟩ : ∃ y_ : List Int, y_ = (y112 ++ [wrap64 (-(wrap64 (x11_3 * x10_2)))]) := ⟨_, rfl⟩
                replace H : ((ferruleref15_Allowed.f k3 l0 a2 y115).bind fun t118 => (if (t118.length : Int) = 0 then (if x7_3.length < 17592186044416 then (ferruleref15_Implied.l1 k3 l0 a2 (x7_3 ++ [wrap64 (x11_3 * x10_2)]) t101 t104 x10_2 (wrap64 (x11_3 - 2))) else (none)) else (ferruleref15_Implied.l1 k3 l0 a2 x7_3 t101 t104 x10_2 (wrap64 (x11_3 - 2))))) = some r := by first | (rw [hy115]; with_reducible exact H) | (have H2_ := (Option.bind_some _ _).symm.trans H; rw [hy115]; with_reducible exact H2_) | (have H2_ := (Option.bind_some _ _).symm.trans H; with_reducible exact H2_) | with_reducible exact H | (rw [hy115]; exact H) | exact H
                have Ny115 := Aside0.mk hy115
                clear hy115
                replace H := Option.bind_eq_some_iff.mp H
                obtain ⟨t118, A230, H⟩ := H
                replace H : (if (t118.length : Int) = 0 then (if x7_3.length < 17592186044416 then (ferruleref15_Implied.l1 k3 l0 a2 (x7_3 ++ [wrap64 (x11_3 * x10_2)]) t101 t104 x10_2 (wrap64 (x11_3 - 2))) else (none)) else (ferruleref15_Implied.l1 k3 l0 a2 x7_3 t101 t104 x10_2 (wrap64 (x11_3 - 2)))) = some r := H
                have A23 := Aside0.mk A230
                clear A230
                by_cases c24 : (t118.length : Int) = 0
                ·rw [if_pos c24] at H
                 have c24b0 : ((t118.length : Int) == 0) = true := beq_iff_eq.mpr c24
                 have c24b1 : ((t118.length : Int) != 0) = false := bne_eq_false_iff_eq.mpr c24
                 clear c24
                 by_cases c25 : x7_3.length < 17592186044416
                 ·rw [if_pos c25] at H
                  have LMc25 := Aside0.mk c25
                  clear c25
                  obtain ⟨y121, hy121⟩ : ∃ y_ : List Int, y_ = (x7_3 ++ [wrap64 (x11_3 * x10_2)]) := ⟨_, rfl⟩
                  replace H : (ferruleref15_Implied.l1 k3 l0 a2 y121 t101 t104 x10_2 (wrap64 (x11_3 - 2))) = some r := by first | (rw [hy121]; with_reducible exact H) | (have H2_ := (Option.bind_some _ _).symm.trans H; rw [hy121]; with_reducible exact H2_) | (have H2_ := (Option.bind_some _ _).symm.trans H; with_reducible exact H2_) | with_reducible exact H | (rw [hy121]; exact H) | exact H
                  have Ny121 := Aside0.mk hy121
                  clear hy121
                  have H' := Aside0.mk H
                  clear H
                  obtain ⟨Ao26, co26, eo26⟩ := Kd.R_slice HO_8.out
                  subst eo26
                  go_wp2_with (first | ((with_reducible refine gate_callee (f := 83) rfl ?_); refine goesL_ (some 48) rfl rfl Try.func83 (by kernel_rfl) rfl #[.slice Ao26 t101.length co26, .int .i64 (wrap64 (x11_3 * x10_2))] rfl bM ?_; (with_reducible refine (ferruleref12_Has.calls k3 _ _ t101 (wrap64 (x11_3 * x10_2)) false _ ?side1 ?side2 A18.out).mono ?_); (case side1 => exact sW (Kd.R_reads' HO_8.out).2.2); (case side2 => exact (Kd.R_reads' HO_8.out).2.1); rintro e w' ⟨rfl, ⟨nd, rfl⟩⟩; refine ⟨_, rfl, ?_⟩) | ((with_reducible refine gate_dst (N := 53) rfl ?_); (try (refine gate_guard (by rfl) ?_; dsimp only)); refine Kd.R_lit (Kd.int .i64) _ 3 ?hg (N := 53) ?hd (xs := ([] : List Int)) (inner := []) (ok := fun _ => True) (okp := fun _ => True) ?hr ?hp (fun _ hk => hk) trivial (Below.refl _ _) (Nat.le_refl _) (by simp) ?_; (case hd => rfl); (case hg => rfl); (case hr => first | (go_simp; done) | (go_simp; rfl)); (case hp => exact (Reps.none _ _)); intro v110 w27 ho28 hb hg_ hnew_; clear hg_ hnew_; (first | rw [← Ny109.out] at ho28 | (simp only [Int.reduceToNat] at ho28; rw [← Ny109.out] at ho28)); replace HO_9 := aR HO_9 hb; have HO111 := Aside0.mk (Kd.R_lower (Kd.R_new' (Kd.R_new' ho28 (Kd.R_lt (aRw HO_7))) (Kd.R_lt (aRw HO_8))) (below_size bB)); replace HO_7 := aE HO_7 ho28 hb; replace HO_8 := aE HO_8 ho28 hb; replace HB := aB HB hb; clear hb ho28) | ((with_reducible refine gate_builtin (b := .append) (xs := #[.tmp 53, .tmp 54]) rfl ?_); (try (refine gate_guard (by rfl) ?_; dsimp only)); at_builtin; refine Kd.R_append_rows (Kd.int .i64) (w0 := w) w.heap.size rfl (.tmp 53) (.tmp 54) 46 3 (.int .i64 0) 8 rfl Try.underlying46 info3 rfl (by decide) (by omega) v110 y109 t101 _ _ _ (fun k_ => some k_ ≠ (u7 : Value).ownBlock ∧ some k_ ≠ ob Ao26 t101 co26) (fun _ => False) rfl rfl ?aO ?aR (fun _ _ h => h) (fun _ h => h.elim) ?aF ?aB ?aS ?aL ?_; (case aR => exact sW (Kd.R_reads' HO_8.out).2.2); (case aB => exact bB); (case aF => exact (fun k_ hk => ⟨Kd.fresh' (Kd.R_lt (aRw HO_7)) k_ hk, Kd.fresh' (Kd.R_lt (aRw HO_8)) k_ hk⟩)); (case aO => exact (by (with_reducible repeat (first | apply Kd.R_alloc | apply Kd.R_drewN | apply Kd.R_drew)); exact Kd.R_mono HO111.out bK)); (case aS => exact (below_size bB)); (case aL => have := LMc21.out; omega); intro v113 w29 ho hb hg hat; rw [← Ny112.out] at ho; replace HO_7 := Aside0.mk (Kd.R_after (ok := (fun k_ => some k_ ≠ ob Ao26 t101 co26)) (aRw HO_7) hg hat); replace HO_8 := Aside0.mk (Kd.R_after (ok := (fun k_ => some k_ ≠ (u7 : Value).ownBlock)) (aRw HO_8) hg hat); replace HO_9 := Aside0.mk (Kd.R_over' (aRw HO_9) (Kd.R_typed (aRw HO111)) (by decide) hg); replace HB := Aside0.mk hb; have HO114 := Aside0.mk ho; clear HO111; clear ho hb hg hat) | ((with_reducible refine gate_builtin (b := .append) (xs := #[.tmp 55, .tmp 60]) rfl ?_); (try (refine gate_guard (by rfl) ?_; dsimp only)); at_builtin; refine Kd.R_append (Kd.int .i64) (w0 := w) w.heap.size rfl (.tmp 55) (.tmp 60) 46 3 (.int .i64 0) 8 rfl Try.underlying46 info3 rfl (by decide) (by omega) v113 y112 (wrap64 (-(wrap64 (x11_3 * x10_2)))) [.int .i64 (wrap64 (-(wrap64 (x11_3 * x10_2))))] (fun k_ => some k_ ≠ (u7 : Value).ownBlock ∧ some k_ ≠ ob Ao26 t101 co26) (fun _ => False) rfl rfl ?aP (fun _ hk => hk.elim) ?aF ?aO ?aB ?aS ?aL ?_; (case aP => exact rfl); (case aB => exact bB); (case aF => exact (fun k_ hk => ⟨Kd.fresh' (Kd.R_lt (aRw HO_7)) k_ hk, Kd.fresh' (Kd.R_lt (aRw HO_8)) k_ hk⟩)); (case aO => exact (aRw HO114)); (case aS => exact (below_size bB)); (case aL => have := LMc22.out; omega); intro v116 w30 ho hb hg hat; rw [← Ny115.out] at ho; replace HO_7 := Aside0.mk (Kd.R_after (ok := (fun k_ => some k_ ≠ ob Ao26 t101 co26)) (aRw HO_7) hg hat); replace HO_8 := Aside0.mk (Kd.R_after (ok := (fun k_ => some k_ ≠ (u7 : Value).ownBlock)) (aRw HO_8) hg hat); replace HO_9 := Aside0.mk (Kd.R_over' (aRw HO_9) (Kd.R_typed (aRw HO114)) (by decide) hg); replace HB := Aside0.mk hb; have HO117 := Aside0.mk ho; clear HO114; clear ho hb hg hat; obtain ⟨Ao31, co31, eo31⟩ := Kd.R_slice HO117.out; subst eo31) | (go_at_call 47; (with_reducible refine (ferruleref15_Allowed.calls k3 _ _ l0 a2 _ _ y115 t118 _ ?side1 ?side2 ?side3 ?side4 A23.out).mono ?_); (case side1 => exact sW (Kd.C_below HR0.out HB.out)); (case side2 => exact HC0.out); (case side3 => exact sW (Kd.R_reads' HO117.out).2.2); (case side4 => exact (Kd.R_reads' HO117.out).2.1); rintro e w32 ⟨v119, rfl, ho0, hb⟩; replace HO_9 := aR HO_9 hb; have HO120 := Aside0.mk (Kd.R_lower (Kd.R_new' (Kd.R_new' (Kd.R_new' ho0 (Kd.R_lt (aRw HO_7))) (Kd.R_lt (aRw HO_8))) (Kd.R_lt (aRw HO117))) (below_size bB)); replace HO_7 := aE HO_7 ho0 hb; replace HO_8 := aE HO_8 ho0 hb; replace HO117 := aE HO117 ho0 hb; replace HB := aB HB hb; (try clear hb); (try clear hb2); (try clear hk); (try clear hi); (try clear ho0); obtain ⟨Ao33, co33, eo33⟩ := Kd.R_slice HO120.out; subst eo33) | ((with_reducible refine gate_builtin (b := .append) (xs := #[.tmp 66, .tmp 70]) rfl ?_); (try (refine gate_guard (by rfl) ?_; dsimp only)); at_builtin; refine Kd.R_append (Kd.int .i64) (w0 := w) w.heap.size rfl (.tmp 66) (.tmp 70) 46 3 (.int .i64 0) 8 rfl Try.underlying46 info3 rfl (by decide) (by omega) u7 x7_3 (wrap64 (x11_3 * x10_2)) [.int .i64 (wrap64 (x11_3 * x10_2))] (fun k_ => some k_ ≠ ob Ao26 t101 co26 ∧ some k_ ≠ ob Ao31 y115 co31 ∧ some k_ ≠ ob Ao33 t118 co33) (fun _ => False) rfl rfl ?aP (fun _ hk => hk.elim) ?aF ?aO ?aB ?aS ?aL ?_; (case aP => exact rfl); (case aB => exact bB); (case aF => exact (fun k_ hk => ⟨Kd.fresh' (Kd.R_lt (aRw HO_8)) k_ hk, Kd.fresh' (Kd.R_lt (aRw HO117)) k_ hk, Kd.fresh' (Kd.R_lt (aRw HO120)) k_ hk⟩)); (case aO => exact (by (with_reducible repeat (first | apply Kd.R_alloc | apply Kd.R_drewN | apply Kd.R_drew)); exact Kd.R_mono HO_7.out bK)); (case aS => exact (below_size bB)); (case aL => have := LMc25.out; omega); intro v122 w34 ho hb hg hat; rw [← Ny121.out] at ho; replace HO_8 := Aside0.mk (Kd.R_after (ok := (fun k_ => some k_ ≠ ob Ao31 y115 co31 ∧ some k_ ≠ ob Ao33 t118 co33)) (by (with_reducible repeat (first | apply Kd.R_alloc | apply Kd.R_drewN | apply Kd.R_drew)); exact Kd.R_mono HO_8.out (fun _ hk => ⟨⟨hk.1.2, hk.2⟩, hk.1.1⟩)) hg hat); replace HO_9 := Aside0.mk (Kd.R_over' (aRw HO_9) (Kd.R_typed (aRw HO_7)) (by decide) hg); replace HO117 := Aside0.mk (Kd.R_after (ok := (fun k_ => some k_ ≠ ob Ao26 t101 co26 ∧ some k_ ≠ ob Ao33 t118 co33)) (by (with_reducible repeat (first | apply Kd.R_alloc | apply Kd.R_drewN | apply Kd.R_drew)); exact Kd.R_mono HO117.out (fun _ hk => ⟨⟨hk.1.2, hk.2⟩, hk.1.1⟩)) hg hat); replace HO120 := Aside0.mk (Kd.R_after (ok := (fun k_ => some k_ ≠ ob Ao26 t101 co26 ∧ some k_ ≠ ob Ao31 y115 co31)) (by (with_reducible repeat (first | apply Kd.R_alloc | apply Kd.R_drewN | apply Kd.R_drew)); exact Kd.R_mono HO120.out (fun _ hk => ⟨⟨hk.1.2, hk.2⟩, hk.1.1.2⟩)) hg hat); replace HB := Aside0.mk hb; have HO123 := Aside0.mk ho; clear HO_7; clear ho hb hg hat))
                  go_roundg k3
                  case measure => have := HJ3.out; have := HK2.out; have := HK3.out; omega
                  case rel => exact ⟨(y121), (wrap64 (x11_3 - 2)), bS, H', ⟨by have := HJ3.out; have := HK2.out; have := HK3.out; omega⟩, ⟨by (with_reducible repeat (first | apply Kd.R_alloc | apply Kd.R_drewN | apply Kd.R_drew)); exact Kd.R_mono HO123.out (fun _ hk => hk.1)⟩, ⟨by (with_reducible repeat (first | apply Kd.R_alloc | apply Kd.R_drewN | apply Kd.R_drew)); exact Kd.R_mono HO_8.out (fun _ hk => hk.2)⟩, ⟨aRw HO_9⟩, ⟨bB⟩⟩
                 ·rw [if_neg c25] at H
                  exact absurd H (by simp)
                ·rw [if_neg c24] at H
                 have c24b0 : ((t118.length : Int) == 0) = false := beq_eq_false_iff_ne.mpr c24
                 have c24b1 : ((t118.length : Int) != 0) = true := bne_iff_ne.mpr c24
                 have c24b2 : ¬ (t118 = []) := fun h_ => c24 (by rw [h_]; rfl)
                 have H' := Aside0.mk H
                 clear H
                 obtain ⟨Ao35, co35, eo35⟩ := Kd.R_slice HO_8.out
                 subst eo35
                 go_wp2_with (first | ((with_reducible refine gate_callee (f := 83) rfl ?_); refine goesL_ (some 48) rfl rfl Try.func83 (by kernel_rfl) rfl #[.slice Ao35 t101.length co35, .int .i64 (wrap64 (x11_3 * x10_2))] rfl bM ?_; (with_reducible refine (ferruleref12_Has.calls k3 _ _ t101 (wrap64 (x11_3 * x10_2)) false _ ?side1 ?side2 A18.out).mono ?_); (case side1 => exact sW (Kd.R_reads' HO_8.out).2.2); (case side2 => exact (Kd.R_reads' HO_8.out).2.1); rintro e w' ⟨rfl, ⟨nd, rfl⟩⟩; refine ⟨_, rfl, ?_⟩) | ((with_reducible refine gate_dst (N := 53) rfl ?_); (try (refine gate_guard (by rfl) ?_; dsimp only)); refine Kd.R_lit (Kd.int .i64) _ 3 ?hg (N := 53) ?hd (xs := ([] : List Int)) (inner := []) (ok := fun _ => True) (okp := fun _ => True) ?hr ?hp (fun _ hk => hk) trivial (Below.refl _ _) (Nat.le_refl _) (by simp) ?_; (case hd => rfl); (case hg => rfl); (case hr => first | (go_simp; done) | (go_simp; rfl)); (case hp => exact (Reps.none _ _)); intro v110 w36 ho37 hb hg_ hnew_; clear hg_ hnew_; (first | rw [← Ny109.out] at ho37 | (simp only [Int.reduceToNat] at ho37; rw [← Ny109.out] at ho37)); replace HO_9 := aR HO_9 hb; have HO111 := Aside0.mk (Kd.R_lower (Kd.R_new' (Kd.R_new' ho37 (Kd.R_lt (aRw HO_7))) (Kd.R_lt (aRw HO_8))) (below_size bB)); replace HO_7 := aE HO_7 ho37 hb; replace HO_8 := aE HO_8 ho37 hb; replace HB := aB HB hb; clear hb ho37) | ((with_reducible refine gate_builtin (b := .append) (xs := #[.tmp 53, .tmp 54]) rfl ?_); (try (refine gate_guard (by rfl) ?_; dsimp only)); at_builtin; refine Kd.R_append_rows (Kd.int .i64) (w0 := w) w.heap.size rfl (.tmp 53) (.tmp 54) 46 3 (.int .i64 0) 8 rfl Try.underlying46 info3 rfl (by decide) (by omega) v110 y109 t101 _ _ _ (fun k_ => some k_ ≠ (u7 : Value).ownBlock ∧ some k_ ≠ ob Ao35 t101 co35) (fun _ => False) rfl rfl ?aO ?aR (fun _ _ h => h) (fun _ h => h.elim) ?aF ?aB ?aS ?aL ?_; (case aR => exact sW (Kd.R_reads' HO_8.out).2.2); (case aB => exact bB); (case aF => exact (fun k_ hk => ⟨Kd.fresh' (Kd.R_lt (aRw HO_7)) k_ hk, Kd.fresh' (Kd.R_lt (aRw HO_8)) k_ hk⟩)); (case aO => exact (by (with_reducible repeat (first | apply Kd.R_alloc | apply Kd.R_drewN | apply Kd.R_drew)); exact Kd.R_mono HO111.out bK)); (case aS => exact (below_size bB)); (case aL => have := LMc21.out; omega); intro v113 w38 ho hb hg hat; rw [← Ny112.out] at ho; replace HO_7 := Aside0.mk (Kd.R_after (ok := (fun k_ => some k_ ≠ ob Ao35 t101 co35)) (aRw HO_7) hg hat); replace HO_8 := Aside0.mk (Kd.R_after (ok := (fun k_ => some k_ ≠ (u7 : Value).ownBlock)) (aRw HO_8) hg hat); replace HO_9 := Aside0.mk (Kd.R_over' (aRw HO_9) (Kd.R_typed (aRw HO111)) (by decide) hg); replace HB := Aside0.mk hb; have HO114 := Aside0.mk ho; clear HO111; clear ho hb hg hat) | ((with_reducible refine gate_builtin (b := .append) (xs := #[.tmp 55, .tmp 60]) rfl ?_); (try (refine gate_guard (by rfl) ?_; dsimp only)); at_builtin; refine Kd.R_append (Kd.int .i64) (w0 := w) w.heap.size rfl (.tmp 55) (.tmp 60) 46 3 (.int .i64 0) 8 rfl Try.underlying46 info3 rfl (by decide) (by omega) v113 y112 (wrap64 (-(wrap64 (x11_3 * x10_2)))) [.int .i64 (wrap64 (-(wrap64 (x11_3 * x10_2))))] (fun k_ => some k_ ≠ (u7 : Value).ownBlock ∧ some k_ ≠ ob Ao35 t101 co35) (fun _ => False) rfl rfl ?aP (fun _ hk => hk.elim) ?aF ?aO ?aB ?aS ?aL ?_; (case aP => exact rfl); (case aB => exact bB); (case aF => exact (fun k_ hk => ⟨Kd.fresh' (Kd.R_lt (aRw HO_7)) k_ hk, Kd.fresh' (Kd.R_lt (aRw HO_8)) k_ hk⟩)); (case aO => exact (aRw HO114)); (case aS => exact (below_size bB)); (case aL => have := LMc22.out; omega); intro v116 w39 ho hb hg hat; rw [← Ny115.out] at ho; replace HO_7 := Aside0.mk (Kd.R_after (ok := (fun k_ => some k_ ≠ ob Ao35 t101 co35)) (aRw HO_7) hg hat); replace HO_8 := Aside0.mk (Kd.R_after (ok := (fun k_ => some k_ ≠ (u7 : Value).ownBlock)) (aRw HO_8) hg hat); replace HO_9 := Aside0.mk (Kd.R_over' (aRw HO_9) (Kd.R_typed (aRw HO114)) (by decide) hg); replace HB := Aside0.mk hb; have HO117 := Aside0.mk ho; clear HO114; clear ho hb hg hat; obtain ⟨Ao40, co40, eo40⟩ := Kd.R_slice HO117.out; subst eo40) | (go_at_call 47; (with_reducible refine (ferruleref15_Allowed.calls k3 _ _ l0 a2 _ _ y115 t118 _ ?side1 ?side2 ?side3 ?side4 A23.out).mono ?_); (case side1 => exact sW (Kd.C_below HR0.out HB.out)); (case side2 => exact HC0.out); (case side3 => exact sW (Kd.R_reads' HO117.out).2.2); (case side4 => exact (Kd.R_reads' HO117.out).2.1); rintro e w41 ⟨v119, rfl, ho0, hb⟩; replace HO_9 := aR HO_9 hb; have HO120 := Aside0.mk (Kd.R_lower (Kd.R_new' (Kd.R_new' (Kd.R_new' ho0 (Kd.R_lt (aRw HO_7))) (Kd.R_lt (aRw HO_8))) (Kd.R_lt (aRw HO117))) (below_size bB)); replace HO_7 := aE HO_7 ho0 hb; replace HO_8 := aE HO_8 ho0 hb; replace HO117 := aE HO117 ho0 hb; replace HB := aB HB hb; (try clear hb); (try clear hb2); (try clear hk); (try clear hi); (try clear ho0); obtain ⟨Ao42, co42, eo42⟩ := Kd.R_slice HO120.out; subst eo42))
                 go_roundg k3
                 case measure => have := HJ3.out; have := HK2.out; have := HK3.out; omega
                 case rel => exact ⟨(x7_3), (wrap64 (x11_3 - 2)), bS, H', ⟨by have := HJ3.out; have := HK2.out; have := HK3.out; omega⟩, ⟨by (with_reducible repeat (first | apply Kd.R_alloc | apply Kd.R_drewN | apply Kd.R_drew)); exact Kd.R_mono HO_7.out (fun _ hk => hk.1.1)⟩, ⟨by (with_reducible repeat (first | apply Kd.R_alloc | apply Kd.R_drewN | apply Kd.R_drew)); exact Kd.R_mono HO_8.out (fun _ hk => hk.1.1)⟩, ⟨aRw HO_9⟩, ⟨bB⟩⟩
               ·rw [if_neg c22] at H
                exact absurd H (by simp)
              ·rw [if_neg c21] at H
               exact absurd H (by simp)
            ·rw [if_neg c17] at H
             have c17b0 : decide ((-1) ≤ x11_3) = false := decide_eq_false c17
             clear c17
             have H' := Aside0.mk H
             clear H
             go_wp2
             go_roundg k3
             case measure => have := HJ3.out; have := HK2.out; have := HK3.out; omega
             case rel => exact ⟨(x7_3), (wrap64 (x10_2 + 1)), bS, H', ⟨by have := HJ3.out; have := HK2.out; have := HK3.out; omega⟩, ⟨aRw HO_7⟩, ⟨aRw HO_8⟩, ⟨aRw HO_9⟩, ⟨bB⟩⟩
         ·rw [if_neg c15] at H
          have c15b0 : (((rd_T111 t104 (ji12)).f1) == a2) = false := beq_eq_false_iff_ne.mpr c15
          have c15b1 : (((rd_T111 t104 (ji12)).f1) != a2) = true := bne_iff_ne.mpr c15
          have H' := Aside0.mk H
          clear H
          obtain ⟨Ao43, co43, eo43⟩ := Kd.R_slice HO_9.out
          subst eo43
          have p107 : 0 ≤ ((ji12) : Int) := oD
          have q107 : (ji12) < (t104.length : Int) := oD
          obtain ⟨ad107, e107, hx107_0, hx107_1, hx107_2⟩ := at_T111 (Kd.R_reads' HO_9.out).2.2 (ji12) p107 q107
          cases e107
          replace p107 := eq_true p107
          replace q107 := eq_true q107
          go_wp2
          go_roundg k2
          case measure => have := HJ3.out; have := HK2.out; omega
          case rel => exact ⟨(x7_2), (wrap64 (x10_2 + 1)), bS, H', ⟨by have := HJ3.out; have := HK2.out; omega⟩, ⟨aRw HO_7⟩, ⟨aRw HO_8⟩, ⟨aRw HO_9⟩, ⟨bB⟩⟩
        ·rw [if_neg c14] at H
         exact absurd H (by simp)
       ·rw [if_neg c13] at H
        exact absurd H (by simp)
      ·rw [if_neg c11] at H
       have c11b0 : decide (x10_2 ≤ (t104.length : Int)) = false := decide_eq_false c11
       clear c11
       obtain rfl := Option.some.inj H
       obtain ⟨Ao44, co44, eo44⟩ := Kd.R_slice HO_9.out
       subst eo44
       go_wp2
       go_ret
       exact ⟨_, by first | rfl | (simp [errW_none, errW_some] <;> rfl) | (simp [*, errW_none, errW_some] <;> rfl), by (with_reducible repeat (first | apply Kd.R_alloc | apply Kd.R_drewN | apply Kd.R_drew)); exact Kd.R_mono HO_7.out (fun _ hk => trivial), bB⟩

end Go.Proofs.Ytcebjhbphcoboaa.X
