-- Written by a program of this session (wip/xp), out of the translation. Not trusted: Lean checks it.
import Derived.Test.YtohgjbkiemnfnaaR0
import Derived.Test.YtohgjbkiemnfnaaRn37
import Derived.Test.YtohgjbkiemnfnaaRn34
import Derived.Test.YtohgjbkiemnfnaaRn35
-- shrunk
namespace Go.Proofs.Ytohgjbkiemnfnaa.R
open Go.RowKit Go.Proofs.YtohgjbkiemnfnaaW.PrintWords Go.Proofs.YtohgjbkiemnfnaaW.PrintLast Go.Proofs.YtohgjbkiemnfnaaW.PrintMore
attribute [local go_sem] Lab.str_gtr Lab.str_leq Lab.str_geq max2_int min2_int max_two min_two max_three min_three max_four min_four   -- for this text's walks alone
set_option linter.unusedVariables false
set_option linter.unusedSimpArgs false

/-! ### ferruleref22_Find: function 49 -/
mutual
def ferruleref22_Find.j0 : Nat → List (List Int) → List Int → Bool → Option (Int)
 | 0, _, _, _ => none
 | k + 1, x0, x5, x18 => if x18 = true then (some (-1)) else (ferruleref22_Find.l0 k x0 x5 0)
def ferruleref22_Find.l0 : Nat → List (List Int) → List Int → Int → Option (Int)
 | 0, _, _, _ => none
 | k + 1, x0, x5, x7 => if x7 < (x0.length : Int) then (if 0 ≤ x7 then ((ferruleref12_Same.f k (rd_L1 x0 x7) x5).bind fun t107 => (if t107 = true then (some x7) else (ferruleref22_Find.l0 k x0 x5 (wrap64 (x7 + 1))))) else (none)) else (some (-1))
end
def ferruleref22_Find.f (k : Nat) (l0 : List (List Int)) (l1 : List Int) : Option (Int) := (ferruleref12_Clean.f k l1).bind fun bt101 => (if bt101.2 = true then (ferruleref22_Find.j0 k l0 bt101.1 true) else ((ferruleref12_Good.f k l1 16777216).bind fun t105 => (ferruleref22_Find.j0 k l0 bt101.1 (!t105))))
theorem ferruleref22_Find.mono_l : ∀ k, (∀ y0 y1 y2, LeO (ferruleref22_Find.j0 k y0 y1 y2) (ferruleref22_Find.j0 (k + 1) y0 y1 y2)) ∧ (∀ y0 y1 y2, LeO (ferruleref22_Find.l0 k y0 y1 y2) (ferruleref22_Find.l0 (k + 1) y0 y1 y2))
 | 0 => ⟨fun _ _ _ r h => by simp [ferruleref22_Find.j0] at h, fun _ _ _ r h => by simp [ferruleref22_Find.l0] at h⟩
 | k + 1 => by
  obtain ⟨ih0, ih1⟩ := ferruleref22_Find.mono_l k
  refine ⟨?_, ?_⟩
  ·intro y0 y1 y2
   unfold ferruleref22_Find.j0
   repeat' first
   | (with_reducible exact ih0 _ _ _)
   | (with_reducible exact ih1 _ _ _)
   | (with_reducible exact ferruleref12_Clean.mono _ _)
   | (with_reducible exact ferruleref12_Good.mono _ _ _)
   | (with_reducible exact ferruleref12_Same.mono _ _ _)
   | (with_reducible exact LeO.refl _)
   | (with_reducible exact LeO.none _)
   | (with_reducible refine LeO.ite ?_ ?_)
   | (with_reducible refine LeO.bind ?_ (fun _ => ?_))
   | exact ih0 _ _ _
   | exact ih1 _ _ _
   | exact ferruleref12_Clean.mono _ _
   | exact ferruleref12_Good.mono _ _ _
   | exact ferruleref12_Same.mono _ _ _
   | exact LeO.none _
   | refine LeO.ite ?_ ?_
   | refine LeO.bind ?_ (fun _ => ?_)
  ·intro y0 y1 y2
   unfold ferruleref22_Find.l0
   repeat' first
   | (with_reducible exact ih0 _ _ _)
   | (with_reducible exact ih1 _ _ _)
   | (with_reducible exact ferruleref12_Clean.mono _ _)
   | (with_reducible exact ferruleref12_Good.mono _ _ _)
   | (with_reducible exact ferruleref12_Same.mono _ _ _)
   | (with_reducible exact LeO.refl _)
   | (with_reducible exact LeO.none _)
   | (with_reducible refine LeO.ite ?_ ?_)
   | (with_reducible refine LeO.bind ?_ (fun _ => ?_))
   | exact ih0 _ _ _
   | exact ih1 _ _ _
   | exact ferruleref12_Clean.mono _ _
   | exact ferruleref12_Good.mono _ _ _
   | exact ferruleref12_Same.mono _ _ _
   | exact LeO.none _
   | refine LeO.ite ?_ ?_
   | refine LeO.bind ?_ (fun _ => ?_)
theorem ferruleref22_Find.mono : ∀ a0 a1 k, LeO (ferruleref22_Find.f k a0 a1) (ferruleref22_Find.f (k + 1) a0 a1) := by
 intro a0 a1 k
 obtain ⟨ih0, ih1⟩ := ferruleref22_Find.mono_l k
 unfold ferruleref22_Find.f
 repeat' first
   | (with_reducible exact ih0 _ _ _)
   | (with_reducible exact ih1 _ _ _)
   | (with_reducible exact ferruleref12_Clean.mono _ _)
   | (with_reducible exact ferruleref12_Good.mono _ _ _)
   | (with_reducible exact ferruleref12_Same.mono _ _ _)
   | (with_reducible exact LeO.refl _)
   | (with_reducible exact LeO.none _)
   | (with_reducible refine LeO.ite ?_ ?_)
   | (with_reducible refine LeO.bind ?_ (fun _ => ?_))
   | exact ih0 _ _ _
   | exact ih1 _ _ _
   | exact ferruleref12_Clean.mono _ _
   | exact ferruleref12_Good.mono _ _ _
   | exact ferruleref12_Same.mono _ _ _
   | exact LeO.none _
   | refine LeO.ite ?_ ?_
   | refine LeO.bind ?_ (fun _ => ?_)
set_option maxHeartbeats 8000000 in
set_option maxRecDepth 100000 in
theorem ferruleref22_Find.calls (k : Nat) (A0 : Option Addr) (c0 : Nat) (l0 : List (List Int)) (A1 : Option Addr) (c1 : Nat) (l1 : List Int) (r : Int) (w : World) (hr0 : Kd.C (Kd.slice 3 (Kd.int .i64)) w A0 l0.length l0) (hc0 : l0.length ≤ c0) (hr1 : Kd.C (Kd.int .i64) w A1 l1.length l1) (hc1 : l1.length ≤ c1) (h : ferruleref22_Find.f k l0 l1 = some r) :
  Calls Try.prog 49 #[.slice A0 l0.length c0, .slice A1 l1.length c1] w fun e w' => e = .returned (.int .i64 r) ∧ Below w.heap.size w w' := by
 have HR0 := Aside0.mk hr0
 have HC0 := Aside0.mk hc0
 clear hr0 hc0
 have HR1 := Aside0.mk hr1
 have HC1 := Aside0.mk hc1
 clear hr1 hc1
 have HB := Aside0.mk (Below.refl w.heap.size w)
 have H : ((ferruleref12_Clean.f k l1).bind fun bt101 => (if bt101.2 = true then (ferruleref22_Find.j0 k l0 bt101.1 true) else ((ferruleref12_Good.f k l1 16777216).bind fun t105 => (ferruleref22_Find.j0 k l0 bt101.1 (!t105))))) = some r := h
 clear h
 replace H := Option.bind_eq_some_iff.mp H
 obtain ⟨⟨t101, t102⟩, A30, H⟩ := H
 replace H : (if t102 = true then (ferruleref22_Find.j0 k l0 t101 true) else ((ferruleref12_Good.f k l1 16777216).bind fun t105 => (ferruleref22_Find.j0 k l0 t101 (!t105)))) = some r := H
 have A3 := Aside0.mk A30
 clear A30
 have HC4 := Aside0.mk H
 clear H
 go_enter Try.func49, Try.ntmps49
 go_upto_region 2 with (first | ((with_reducible refine gate_callee (f := 34) rfl ?_); refine goesL_ (some 10) rfl rfl Try.func34 (by kernel_rfl) rfl #[.slice A1 l1.length c1] rfl bM ?_; (with_reducible refine (ferruleref12_Clean.calls k _ _ l1 t101 t102 _ ?side1 ?side2 A3.out).mono ?_); (case side1 => repeat (first | exact HR1.out | (with_reducible refine Kd.C_alloc ?_ _) | (with_reducible refine Kd.C_drewN ?_ _) | (with_reducible refine Kd.C_drew ?_))); (case side2 => exact HC1.out); rintro e w5 ⟨v103, rfl, ho0, hb⟩; refine ⟨_, rfl, ?_⟩; have HO104 := aL ho0 HB; replace HB := aB HB hb; (try clear hb); (try clear hb2); (try clear hk); (try clear hi); (try clear ho0)))
 (try simp only [Act.put, List.setIfInBounds_toArray, List.set_cons_zero, List.set_cons_succ])
 go_cut [18] (fun v18 wc => ∃ (kq : Nat) (x18_3 : Bool), v18 = .bool x18_3 ∧ Aside0 (ferruleref22_Find.j0 kq l0 t101 x18_3 = some r) ∧ Aside0 (kq ≤ k) ∧ Aside0 (Kd.R (Kd.int .i64) 3 wc w.heap.size (fun _ => True) v103 t101) ∧ Aside0 (Below w.heap.size w wc))
 case first =>
  have H := HC4.out
  clear HC4
  by_cases c6 : t102 = true
  ·subst c6
   have H1 : (ferruleref22_Find.j0 k l0 t101 true) = some r := by rw [if_pos rfl] at H; exact H
   clear H
   have H := H1
   clear H1
   have H' := Aside0.mk H
   clear H
   go_wp2
   go_meet
   case rel => exact ⟨_, (true), bS, H', ⟨by first | omega | exact Nat.le_refl _⟩, ⟨aRw HO104⟩, ⟨bB⟩⟩
  ·replace c6 := Bool.eq_false_iff.mpr c6
   subst c6
   have H1 : ((ferruleref12_Good.f k l1 16777216).bind fun t105 => (ferruleref22_Find.j0 k l0 t101 (!t105))) = some r := by rw [if_neg (show ¬ (false = true) by decide)] at H; exact H
   clear H
   have H := H1
   clear H1
   replace H := Option.bind_eq_some_iff.mp H
   obtain ⟨t105, A70, H⟩ := H
   replace H : (ferruleref22_Find.j0 k l0 t101 (!t105)) = some r := H
   have A7 := Aside0.mk A70
   clear A70
   have H' := Aside0.mk H
   clear H
   go_wp2_with (first | (go_at_call 37; (with_reducible refine (ferruleref12_Good.calls k _ _ l1 16777216 t105 _ ?side1 ?side2 A7.out).mono ?_); (case side1 => exact sW (Kd.C_below HR1.out HB.out)); (case side2 => exact HC1.out); rintro e w' ⟨rfl, ⟨nd, rfl⟩⟩))
   go_meet
   case rel => exact ⟨_, (!t105), bS, H', ⟨by first | omega | exact Nat.le_refl _⟩, ⟨aRw HO104⟩, ⟨bB⟩⟩
 case rest =>
  clear HC4
  try clear c1
  try clear p2
  try clear c3
  try clear c4
  try clear c6
  try clear p6
  obtain ⟨kq, x18_3, rfl, HA, HJ3, HO_5, HB⟩ := hcut
  cases kq with
  | zero => exact absurd HA.out (by simp [ferruleref22_Find.j0])
  | succ kj3 =>
   have H := HA.out
   clear HA
   simp only [ferruleref22_Find.j0] at H
   by_cases c8 : x18_3 = true
   ·subst c8
    have H1 : (some (-1)) = some r := by rw [if_pos rfl] at H; exact H
    clear H
    have H := H1
    clear H1
    obtain rfl := Option.some.inj H
    go_wp2
    go_ret
    exact ⟨by first | rfl | (simp [errW_none, errW_some] <;> rfl) | (simp [*, errW_none, errW_some] <;> rfl), bB⟩
   ·replace c8 := Bool.eq_false_iff.mpr c8
    subst c8
    have H1 : (ferruleref22_Find.l0 kj3 l0 t101 0) = some r := by rw [if_neg (show ¬ (false = true) by decide)] at H; exact H
    clear H
    have H := H1
    clear H1
    have H' := Aside0.mk H
    clear H
    go_wp2
    go_loopg [7] kj3 (fun kq v7 w' => ∃ (x7_2 : Int), v7 = .int .i64 x7_2 ∧ Aside0 (ferruleref22_Find.l0 kq l0 t101 x7_2 = some r) ∧ Aside0 (kq ≤ kj3) ∧ Aside0 (Kd.R (Kd.int .i64) 3 w' w.heap.size (fun _ => True) v103 t101) ∧ Aside0 (Below w.heap.size w w'))
    case atStart => exact ⟨(0), bS, H', ⟨Nat.le_refl _⟩, ⟨aRw HO_5⟩, ⟨bB⟩⟩
    case round =>
     clear H'
     try clear c1
     try clear p2
     try clear c3
     try clear c4
     try clear c6
     try clear p6
     try clear c8
     try clear p2
     try clear p6
     obtain ⟨x7_2, rfl, HA, HK2, HO_5, HB⟩ := hrel
     cases gk with
     | zero => exact absurd HA.out (by simp [ferruleref22_Find.l0])
     | succ k2 =>
      have H := HA.out
      clear HA
      simp only [ferruleref22_Find.l0] at H
      by_cases c9 : x7_2 < (l0.length : Int)
      ·rw [if_pos c9] at H
       have c9b0 : decide (x7_2 < (l0.length : Int)) = true := decide_eq_true c9
       clear c9
       by_cases c10 : 0 ≤ x7_2
       ·rw [if_pos c10] at H
        have c10b0 : decide (0 ≤ x7_2) = true := decide_eq_true c10
        clear c10
        replace H := Option.bind_eq_some_iff.mp H
        obtain ⟨t107, A110, H⟩ := H
        replace H : (if t107 = true then (some x7_2) else (ferruleref22_Find.l0 k2 l0 t101 (wrap64 (x7_2 + 1)))) = some r := H
        have A11 := Aside0.mk A110
        clear A110
        by_cases c12 : t107 = true
        ·subst c12
         have H1 : (some x7_2) = some r := by rw [if_pos rfl] at H; exact H
         clear H
         have H := H1
         clear H1
         obtain rfl := Option.some.inj H
         have p106 : 0 ≤ (x7_2 : Int) := oD
         have q106 : x7_2 < (l0.length : Int) := oD
         obtain ⟨ad106, A106_0, c106_0, e106, hx106_0, hl106_0, hi106_0⟩ := at_L1 HR0.out x7_2 p106 q106
         cases e106
         replace hx106_0 := (HB.out.cell (World.block_lt_of_cell? w _ hx106_0)).trans hx106_0
         have HR106_0 := Aside0.mk hi106_0
         have HC106_0 := Aside0.mk hl106_0
         clear hi106_0 hl106_0
         replace p106 := eq_true p106
         replace q106 := eq_true q106
         obtain ⟨Ao13, co13, eo13⟩ := Kd.R_slice HO_5.out
         subst eo13
         go_wp2_with (first | ((with_reducible refine gate_callee (f := 35) rfl ?_); refine goesL_ (some 30) rfl rfl Try.func35 (by kernel_rfl) rfl #[.slice A106_0 (rd_L1 l0 x7_2).length c106_0, .slice Ao13 t101.length co13] rfl bM ?_; (with_reducible refine (ferruleref12_Same.calls k2 _ _ (rd_L1 l0 x7_2) _ _ t101 true _ ?side1 ?side2 ?side3 ?side4 A11.out).mono ?_); (case side1 => exact sW (Kd.C_below HR106_0.out HB.out)); (case side2 => exact HC106_0.out); (case side3 => exact sW (Kd.R_reads' HO_5.out).2.2); (case side4 => exact (Kd.R_reads' HO_5.out).2.1); rintro e w' ⟨rfl, ⟨nd, rfl⟩⟩; refine ⟨_, rfl, ?_⟩))
         go_ret
         exact ⟨by first | rfl | (simp [errW_none, errW_some] <;> rfl) | (simp [*, errW_none, errW_some] <;> rfl), bB⟩
        ·replace c12 := Bool.eq_false_iff.mpr c12
         subst c12
         have H1 : (ferruleref22_Find.l0 k2 l0 t101 (wrap64 (x7_2 + 1))) = some r := by rw [if_neg (show ¬ (false = true) by decide)] at H; exact H
         clear H
         have H := H1
         clear H1
         have H' := Aside0.mk H
         clear H
         have p106 : 0 ≤ (x7_2 : Int) := oD
         have q106 : x7_2 < (l0.length : Int) := oD
         obtain ⟨ad106, A106_0, c106_0, e106, hx106_0, hl106_0, hi106_0⟩ := at_L1 HR0.out x7_2 p106 q106
         cases e106
         replace hx106_0 := (HB.out.cell (World.block_lt_of_cell? w _ hx106_0)).trans hx106_0
         have HR106_0 := Aside0.mk hi106_0
         have HC106_0 := Aside0.mk hl106_0
         clear hi106_0 hl106_0
         replace p106 := eq_true p106
         replace q106 := eq_true q106
         obtain ⟨Ao14, co14, eo14⟩ := Kd.R_slice HO_5.out
         subst eo14
         go_wp2_with (first | ((with_reducible refine gate_callee (f := 35) rfl ?_); refine goesL_ (some 30) rfl rfl Try.func35 (by kernel_rfl) rfl #[.slice A106_0 (rd_L1 l0 x7_2).length c106_0, .slice Ao14 t101.length co14] rfl bM ?_; (with_reducible refine (ferruleref12_Same.calls k2 _ _ (rd_L1 l0 x7_2) _ _ t101 false _ ?side1 ?side2 ?side3 ?side4 A11.out).mono ?_); (case side1 => exact sW (Kd.C_below HR106_0.out HB.out)); (case side2 => exact HC106_0.out); (case side3 => exact sW (Kd.R_reads' HO_5.out).2.2); (case side4 => exact (Kd.R_reads' HO_5.out).2.1); rintro e w' ⟨rfl, ⟨nd, rfl⟩⟩; refine ⟨_, rfl, ?_⟩))
         go_roundg k2
         case measure => have := HJ3.out; have := HK2.out; omega
         case rel => exact ⟨(wrap64 (x7_2 + 1)), bS, H', ⟨by have := HJ3.out; have := HK2.out; omega⟩, ⟨aRw HO_5⟩, ⟨bB⟩⟩
       ·rw [if_neg c10] at H
        exact absurd H (by simp)
      ·rw [if_neg c9] at H
       have c9b0 : decide (x7_2 < (l0.length : Int)) = false := decide_eq_false c9
       clear c9
       obtain rfl := Option.some.inj H
       go_wp2
       go_ret
       exact ⟨by first | rfl | (simp [errW_none, errW_some] <;> rfl) | (simp [*, errW_none, errW_some] <;> rfl), bB⟩

end Go.Proofs.Ytohgjbkiemnfnaa.R
