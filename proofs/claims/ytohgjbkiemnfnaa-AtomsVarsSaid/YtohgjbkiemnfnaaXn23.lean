-- Written by a program of this session (wip/xp), out of the translation. Not trusted: Lean checks it.
import Derived.Test.YtohgjbkiemnfnaaX0
import Derived.Test.YtohgjbkiemnfnaaXe1
import Derived.Test.YtohgjbkiemnfnaaXn18
-- shrunk
namespace Go.Proofs.Ytohgjbkiemnfnaa.X
open Go.RowKit Go.Proofs.YtohgjbkiemnfnaaW.PrintWords Go.Proofs.YtohgjbkiemnfnaaW.PrintLast Go.Proofs.YtohgjbkiemnfnaaW.PrintMore
attribute [local go_sem] Lab.str_gtr Lab.str_leq Lab.str_geq max2_int min2_int max_two min_two max_three min_three max_four min_four   -- for this text's walks alone
set_option linter.unusedVariables false
set_option linter.unusedSimpArgs false

attribute [local go_sem high] eqA24
/-! ### ferruleref13_Var: function 23 -/
def ferruleref13_Var.l0 : Nat → List (S24) → Int → Int → Int → Int → Option (Int)
 | 0, _, _, _, _, _ => none
 | k + 1, x5, x6, x102000, x102001, x102002 => if x6 < (x5.length : Int) then (if 0 ≤ x6 then (if (((rd_T24 x5 x6).f0) == x102000 && (((rd_T24 x5 x6).f1) == x102001 && (((rd_T24 x5 x6).f2) == x102002))) = true then (some (wrap64 (x6 + 1))) else (ferruleref13_Var.l0 k x5 (wrap64 (x6 + 1)) x102000 x102001 x102002)) else (none)) else (some 0)
def ferruleref13_Var.f (k : Nat) (l0 : List Int) (a1_0 : Int) (a1_1 : Int) (a1_2 : Int) : Option (Int) := (ferruleref13_All.f k l0).bind fun t102 => (ferruleref13_Var.l0 k t102 0 a1_0 a1_1 a1_2)
theorem ferruleref13_Var.mono_l : ∀ k, (∀ y0 y1 y2 y3 y4, LeO (ferruleref13_Var.l0 k y0 y1 y2 y3 y4) (ferruleref13_Var.l0 (k + 1) y0 y1 y2 y3 y4))
 | 0 => fun _ _ _ _ _ r h => by simp [ferruleref13_Var.l0] at h
 | k + 1 => by
  have ih0 := ferruleref13_Var.mono_l k
  ·intro y0 y1 y2 y3 y4
   unfold ferruleref13_Var.l0
   repeat' first
   | (with_reducible exact ih0 _ _ _ _ _)
   | (with_reducible exact ferruleref13_All.mono _ _)
   | (with_reducible exact LeO.refl _)
   | (with_reducible exact LeO.none _)
   | (with_reducible refine LeO.ite ?_ ?_)
   | (with_reducible refine LeO.bind ?_ (fun _ => ?_))
   | exact ih0 _ _ _ _ _
   | exact ferruleref13_All.mono _ _
   | exact LeO.none _
   | refine LeO.ite ?_ ?_
   | refine LeO.bind ?_ (fun _ => ?_)
theorem ferruleref13_Var.mono : ∀ a0 a1 a2 a3 k, LeO (ferruleref13_Var.f k a0 a1 a2 a3) (ferruleref13_Var.f (k + 1) a0 a1 a2 a3) := by
 intro a0 a1 a2 a3 k
 have ih0 := ferruleref13_Var.mono_l k
 unfold ferruleref13_Var.f
 repeat' first
   | (with_reducible exact ih0 _ _ _ _ _)
   | (with_reducible exact ferruleref13_All.mono _ _)
   | (with_reducible exact LeO.refl _)
   | (with_reducible exact LeO.none _)
   | (with_reducible refine LeO.ite ?_ ?_)
   | (with_reducible refine LeO.bind ?_ (fun _ => ?_))
   | exact ih0 _ _ _ _ _
   | exact ferruleref13_All.mono _ _
   | exact LeO.none _
   | refine LeO.ite ?_ ?_
   | refine LeO.bind ?_ (fun _ => ?_)
set_option maxHeartbeats 8000000 in
set_option maxRecDepth 100000 in
theorem ferruleref13_Var.calls (k : Nat) (A0 : Option Addr) (c0 : Nat) (l0 : List Int) (a1_0 : Int) (a1_1 : Int) (a1_2 : Int) (r : Int) (w : World) (hr0 : Kd.C (Kd.int .i64) w A0 l0.length l0) (hc0 : l0.length ≤ c0) (h : ferruleref13_Var.f k l0 a1_0 a1_1 a1_2 = some r) :
  Calls Try.prog 23 #[.slice A0 l0.length c0, .agg #[.int .i64 a1_0, .int .i64 a1_1, .int .i64 a1_2]] w fun e w' => e = .returned (.int .i64 r) ∧ Below w.heap.size w w' := by
 have hu24 := Try.underlying24
 have HR0 := Aside0.mk hr0
 have HC0 := Aside0.mk hc0
 clear hr0 hc0
 have HB := Aside0.mk (Below.refl w.heap.size w)
 have H : ((ferruleref13_All.f k l0).bind fun t102 => (ferruleref13_Var.l0 k t102 0 a1_0 a1_1 a1_2)) = some r := h
 clear h
 replace H := Option.bind_eq_some_iff.mp H
 obtain ⟨t102, A30, H⟩ := H
 replace H : (ferruleref13_Var.l0 k t102 0 a1_0 a1_1 a1_2) = some r := H
 have A3 := Aside0.mk A30
 clear A30
 have H' := Aside0.mk H
 clear H
 go_enter Try.func23, Try.ntmps23
 go_wp2_with (first | ((with_reducible refine gate_dst (N := 3) rfl ?_); refine box_event ?hg (N := 3) ?hd (cs := #[.int .i64 a1_0, .int .i64 a1_1, .int .i64 a1_2]) (t := 24) ?hr ?_; (case hd => rfl); (case hg => rfl); (case hr => first | (go_simp; done) | (go_simp; rfl)); intro gb101 hg w4 hbox hb; have BK101 := Aside0.mk hbox; have GW101 := Aside0.mk ((by rw [hg]; exact (below_size bB) : w.heap.size ≤ gb101)); have GE101 := Aside0.mk ((by rw [hg]; exact (below_size bB) : w.heap.size ≤ gb101)); replace HB := aB HB hb; clear hb hbox hg) | (go_at_call 18; (with_reducible refine (ferruleref13_All.calls k _ _ l0 t102 _ ?side1 ?side2 A3.out).mono ?_); (case side1 => exact sW (Kd.C_below HR0.out HB.out)); (case side2 => exact HC0.out); rintro e w5 ⟨v103, rfl, ho0, hb⟩; have HO104 := Aside0.mk (Kd.R_lower (Kd.R_newB ho0 (g := gb101) (o := .cells #[.int .i64 a1_0, .int .i64 a1_1, .int .i64 a1_2] 24 (0, 0)) (aKw BK101)) (below_size bB)); replace BK101 := aK BK101 hb; replace HB := aB HB hb; (try clear hb); (try clear hb2); (try clear hk); (try clear hi); (try clear ho0)))
 repeat (go_quiet (first | ((with_reducible refine gate_dst (N := 3) rfl ?_); refine box_event ?hg (N := 3) ?hd (cs := #[.int .i64 a1_0, .int .i64 a1_1, .int .i64 a1_2]) (t := 24) ?hr ?_; (case hd => rfl); (case hg => rfl); (case hr => first | (go_simp; done) | (go_simp; rfl)); intro gb101 hg w4 hbox hb; have BK101 := Aside0.mk hbox; have GW101 := Aside0.mk ((by rw [hg]; exact (below_size bB) : w.heap.size ≤ gb101)); have GE101 := Aside0.mk ((by rw [hg]; exact (below_size bB) : w.heap.size ≤ gb101)); replace HB := aB HB hb; clear hb hbox hg) | (go_at_call 18; (with_reducible refine (ferruleref13_All.calls k _ _ l0 t102 _ ?side1 ?side2 A3.out).mono ?_); (case side1 => exact sW (Kd.C_below HR0.out HB.out)); (case side2 => exact HC0.out); rintro e w5 ⟨v103, rfl, ho0, hb⟩; have HO104 := Aside0.mk (Kd.R_lower (Kd.R_newB ho0 (g := gb101) (o := .cells #[.int .i64 a1_0, .int .i64 a1_1, .int .i64 a1_2] 24 (0, 0)) (aKw BK101)) (below_size bB)); replace BK101 := aK BK101 hb; replace HB := aB HB hb; (try clear hb); (try clear hb2); (try clear hk); (try clear hi); (try clear ho0))); try go_wp2_with (first | ((with_reducible refine gate_dst (N := 3) rfl ?_); refine box_event ?hg (N := 3) ?hd (cs := #[.int .i64 a1_0, .int .i64 a1_1, .int .i64 a1_2]) (t := 24) ?hr ?_; (case hd => rfl); (case hg => rfl); (case hr => first | (go_simp; done) | (go_simp; rfl)); intro gb101 hg w4 hbox hb; have BK101 := Aside0.mk hbox; have GW101 := Aside0.mk ((by rw [hg]; exact (below_size bB) : w.heap.size ≤ gb101)); have GE101 := Aside0.mk ((by rw [hg]; exact (below_size bB) : w.heap.size ≤ gb101)); replace HB := aB HB hb; clear hb hbox hg) | (go_at_call 18; (with_reducible refine (ferruleref13_All.calls k _ _ l0 t102 _ ?side1 ?side2 A3.out).mono ?_); (case side1 => exact sW (Kd.C_below HR0.out HB.out)); (case side2 => exact HC0.out); rintro e w5 ⟨v103, rfl, ho0, hb⟩; have HO104 := Aside0.mk (Kd.R_lower (Kd.R_newB ho0 (g := gb101) (o := .cells #[.int .i64 a1_0, .int .i64 a1_1, .int .i64 a1_2] 24 (0, 0)) (aKw BK101)) (below_size bB)); replace BK101 := aK BK101 hb; replace HB := aB HB hb; (try clear hb); (try clear hb2); (try clear hk); (try clear hi); (try clear ho0))))
 go_loopg [6] k (fun kq v6 w' => ∃ (x6_1 : Int), v6 = .int .i64 x6_1 ∧ Aside0 (ferruleref13_Var.l0 kq t102 x6_1 a1_0 a1_1 a1_2 = some r) ∧ Aside0 (kq ≤ k) ∧ Aside0 (Kd.R k24 24 w' w.heap.size (fun k_ => k_ ≠ gb101) v103 t102) ∧ Aside0 (w'.heap[gb101]? = some (.cells #[.int .i64 a1_0, .int .i64 a1_1, .int .i64 a1_2] 24 (0, 0))) ∧ Aside0 (Below w.heap.size w w'))
 case atStart => exact ⟨(0), bS, H', ⟨Nat.le_refl _⟩, ⟨by (with_reducible repeat (first | apply Kd.R_alloc | apply Kd.R_drewN | apply Kd.R_drew)); exact Kd.R_mono HO104.out (fun _ hk => hk.2)⟩, ⟨aKw BK101⟩, ⟨bB⟩⟩
 case round =>
  clear H'
  try clear c2
  try clear p2
  obtain ⟨x6_1, rfl, HA, HK1, HO_5, BK101, HB⟩ := hrel
  cases gk with
  | zero => exact absurd HA.out (by simp [ferruleref13_Var.l0])
  | succ k1 =>
   have H := HA.out
   clear HA
   simp only [ferruleref13_Var.l0] at H
   by_cases c6 : x6_1 < (t102.length : Int)
   ·rw [if_pos c6] at H
    have c6b0 : decide (x6_1 < (t102.length : Int)) = true := decide_eq_true c6
    clear c6
    by_cases c7 : 0 ≤ x6_1
    ·rw [if_pos c7] at H
     have c7b0 : decide (0 ≤ x6_1) = true := decide_eq_true c7
     clear c7
     by_cases c8 : (((rd_T24 t102 x6_1).f0) == a1_0 && (((rd_T24 t102 x6_1).f1) == a1_1 && (((rd_T24 t102 x6_1).f2) == a1_2))) = true
     ·rw [if_pos c8] at H
      have c8b0 : (((rd_T24 t102 x6_1).f0) == a1_0 && (((rd_T24 t102 x6_1).f1) == a1_1 && (((rd_T24 t102 x6_1).f2) == a1_2))) = true := c8
      (try (have c8b1 : decide (((rd_T24 t102 x6_1).f0) = a1_0 && (((rd_T24 t102 x6_1).f1) == a1_1 && (((rd_T24 t102 x6_1).f2) == a1_2))) = true := by simpa using c8))
      (try (have c8b2 : (((rd_T24 t102 x6_1).f0) == a1_0 && (((rd_T24 t102 x6_1).f1) == a1_1 && (((rd_T24 t102 x6_1).f2) == a1_2))) = true := by simpa using c8))
      clear c8
      obtain rfl := Option.some.inj H
      obtain ⟨Ao9, co9, eo9⟩ := Kd.R_slice HO_5.out
      subst eo9
      have p105 : 0 ≤ (x6_1 : Int) := oD
      have q105 : x6_1 < (t102.length : Int) := oD
      obtain ⟨ad105, e105, hx105_0, hx105_1, hx105_2⟩ := at_T24 (Kd.R_reads' HO_5.out).2.2 x6_1 p105 q105
      cases e105
      replace p105 := eq_true p105
      replace q105 := eq_true q105
      have hcz10_0 : wr.cell? ⟨gb101, 0, none⟩ = some (.int .i64 a1_0) := (blk_cell BK101.out 0).trans rfl
      have hcz10_1 : wr.cell? ⟨gb101, 1, none⟩ = some (.int .i64 a1_1) := (blk_cell BK101.out 1).trans rfl
      have hcz10_2 : wr.cell? ⟨gb101, 2, none⟩ = some (.int .i64 a1_2) := (blk_cell BK101.out 2).trans rfl
      have hfz10_0 := blk_frozen BK101.out 0
      have hfz10_1 := blk_frozen BK101.out 1
      have hfz10_2 := blk_frozen BK101.out 2
      go_wp2
      repeat (go_quiet (fail); try go_wp2)
      go_ret
      exact ⟨by first | rfl | (simp [errW_none, errW_some] <;> rfl) | (simp [*, errW_none, errW_some] <;> rfl), bB⟩
     ·rw [if_neg c8] at H
      have c8b0 : (((rd_T24 t102 x6_1).f0) == a1_0 && (((rd_T24 t102 x6_1).f1) == a1_1 && (((rd_T24 t102 x6_1).f2) == a1_2))) = false := by simpa using c8
      (try (have c8b1 : decide (((rd_T24 t102 x6_1).f0) = a1_0 && (((rd_T24 t102 x6_1).f1) == a1_1 && (((rd_T24 t102 x6_1).f2) == a1_2))) = false := by simpa using c8))
      (try (have c8b2 : (((rd_T24 t102 x6_1).f0) == a1_0 && (((rd_T24 t102 x6_1).f1) == a1_1 && (((rd_T24 t102 x6_1).f2) == a1_2))) = false := by simpa using c8))
      (try (have c8b3 : ¬ (((rd_T24 t102 x6_1).f0) = a1_0 && (((rd_T24 t102 x6_1).f1) == a1_1 && (((rd_T24 t102 x6_1).f2) == a1_2))) := by simpa using c8))
      clear c8
      have H' := Aside0.mk H
      clear H
      obtain ⟨Ao11, co11, eo11⟩ := Kd.R_slice HO_5.out
      subst eo11
      have p105 : 0 ≤ (x6_1 : Int) := oD
      have q105 : x6_1 < (t102.length : Int) := oD
      obtain ⟨ad105, e105, hx105_0, hx105_1, hx105_2⟩ := at_T24 (Kd.R_reads' HO_5.out).2.2 x6_1 p105 q105
      cases e105
      replace p105 := eq_true p105
      replace q105 := eq_true q105
      have hcz12_0 : wr.cell? ⟨gb101, 0, none⟩ = some (.int .i64 a1_0) := (blk_cell BK101.out 0).trans rfl
      have hcz12_1 : wr.cell? ⟨gb101, 1, none⟩ = some (.int .i64 a1_1) := (blk_cell BK101.out 1).trans rfl
      have hcz12_2 : wr.cell? ⟨gb101, 2, none⟩ = some (.int .i64 a1_2) := (blk_cell BK101.out 2).trans rfl
      have hfz12_0 := blk_frozen BK101.out 0
      have hfz12_1 := blk_frozen BK101.out 1
      have hfz12_2 := blk_frozen BK101.out 2
      go_wp2
      repeat (go_quiet (fail); try go_wp2)
      go_roundg k1
      case measure => have := HK1.out; omega
      case rel => exact ⟨(wrap64 (x6_1 + 1)), bS, H', ⟨by have := HK1.out; omega⟩, ⟨aRw HO_5⟩, ⟨aKw BK101⟩, ⟨bB⟩⟩
    ·rw [if_neg c7] at H
     exact absurd H (by simp)
   ·rw [if_neg c6] at H
    have c6b0 : decide (x6_1 < (t102.length : Int)) = false := decide_eq_false c6
    clear c6
    obtain rfl := Option.some.inj H
    obtain ⟨Ao13, co13, eo13⟩ := Kd.R_slice HO_5.out
    subst eo13
    go_wp2
    repeat (go_quiet (fail); try go_wp2)
    go_ret
    exact ⟨by first | rfl | (simp [errW_none, errW_some] <;> rfl) | (simp [*, errW_none, errW_some] <;> rfl), bB⟩

end Go.Proofs.Ytohgjbkiemnfnaa.X
