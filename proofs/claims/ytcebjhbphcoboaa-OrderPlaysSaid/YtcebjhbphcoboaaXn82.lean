-- Written by a program of this session (wip/xp), out of the translation. Not trusted: Lean checks it.
import Derived.Test.YtcebjhbphcoboaaX0
import Derived.Test.YtcebjhbphcoboaaXn70
import Derived.Test.YtcebjhbphcoboaaXm
-- shrunk
namespace Go.Proofs.Ytcebjhbphcoboaa.X
open Go.RowKit Go.Proofs.YtcebjhbphcoboaaW.PrintWords Go.Proofs.YtcebjhbphcoboaaW.PrintLast Go.Proofs.YtcebjhbphcoboaaW.PrintMore
attribute [local go_sem] Lab.str_gtr Lab.str_leq Lab.str_geq max2_int min2_int max_two min_two max_three min_three max_four min_four   -- for this text's walks alone
set_option linter.unusedVariables false
set_option linter.unusedSimpArgs false

/-! ### ferruleref15_Atom: function 82 -/
def ferruleref15_Atom.f (k : Nat) (l0 : List Int) (a1 : Int) : Option (Int × Int × Int × Bool) := (ferruleref13_All.f k l0).bind fun t102 => ((ferruleref12_Var.f k a1).bind fun t105 => (if t105 < 1 then (some (0, 0, 0, false)) else (if t105 > (t102.length : Int) then (some (0, 0, 0, false)) else (if 0 ≤ (wrap64 (t105 - 1)) then (if (wrap64 (t105 - 1)) < (t102.length : Int) then (some ((rd_T111 t102 (wrap64 (t105 - 1))).f0, (rd_T111 t102 (wrap64 (t105 - 1))).f1, (rd_T111 t102 (wrap64 (t105 - 1))).f2, true)) else (none)) else (none)))))
theorem ferruleref15_Atom.mono : ∀ a0 a1 k, LeO (ferruleref15_Atom.f k a0 a1) (ferruleref15_Atom.f (k + 1) a0 a1) := by
 intro a0 a1 k
 unfold ferruleref15_Atom.f
 repeat' first
   | (with_reducible exact ferruleref12_Var.mono _ _)
   | (with_reducible exact ferruleref13_All.mono _ _)
   | (with_reducible exact LeO.refl _)
   | (with_reducible exact LeO.none _)
   | (with_reducible refine LeO.ite ?_ ?_)
   | (with_reducible refine LeO.bind ?_ (fun _ => ?_))
   | exact ferruleref12_Var.mono _ _
   | exact ferruleref13_All.mono _ _
   | exact LeO.none _
   | refine LeO.ite ?_ ?_
   | refine LeO.bind ?_ (fun _ => ?_)
set_option maxHeartbeats 8000000 in
set_option maxRecDepth 100000 in
theorem ferruleref15_Atom.calls (k : Nat) (A0 : Option Addr) (c0 : Nat) (l0 : List Int) (a1 : Int) (r1 : Int) (r2 : Int) (r3 : Int) (r4 : Bool) (w : World) (hr0 : Kd.C (Kd.int .i64) w A0 l0.length l0) (hc0 : l0.length ≤ c0) (h : ferruleref15_Atom.f k l0 a1 = some (r1, r2, r3, r4)) :
  Calls Try.prog 82 #[.slice A0 l0.length c0, .int .i64 a1] w fun e w' => e = .returned (.tuple #[.agg #[.int .i64 r1, .int .i64 r2, .int .i64 r3], .bool r4]) ∧ Below w.heap.size w w' := by
 have hu111 := Try.underlying111
 have HR0 := Aside0.mk hr0
 have HC0 := Aside0.mk hc0
 clear hr0 hc0
 have HB := Aside0.mk (Below.refl w.heap.size w)
 have H : ((ferruleref13_All.f k l0).bind fun t102 => ((ferruleref12_Var.f k a1).bind fun t105 => (if t105 < 1 then (some (0, 0, 0, false)) else (if t105 > (t102.length : Int) then (some (0, 0, 0, false)) else (if 0 ≤ (wrap64 (t105 - 1)) then (if (wrap64 (t105 - 1)) < (t102.length : Int) then (some ((rd_T111 t102 (wrap64 (t105 - 1))).f0, (rd_T111 t102 (wrap64 (t105 - 1))).f1, (rd_T111 t102 (wrap64 (t105 - 1))).f2, true)) else (none)) else (none)))))) = some (r1, r2, r3, r4) := h
 clear h
 replace H := Option.bind_eq_some_iff.mp H
 obtain ⟨t102, A30, H⟩ := H
 replace H : ((ferruleref12_Var.f k a1).bind fun t105 => (if t105 < 1 then (some (0, 0, 0, false)) else (if t105 > (t102.length : Int) then (some (0, 0, 0, false)) else (if 0 ≤ (wrap64 (t105 - 1)) then (if (wrap64 (t105 - 1)) < (t102.length : Int) then (some ((rd_T111 t102 (wrap64 (t105 - 1))).f0, (rd_T111 t102 (wrap64 (t105 - 1))).f1, (rd_T111 t102 (wrap64 (t105 - 1))).f2, true)) else (none)) else (none))))) = some (r1, r2, r3, r4) := H
 have A3 := Aside0.mk A30
 clear A30
 replace H := Option.bind_eq_some_iff.mp H
 obtain ⟨t105, A40, H⟩ := H
 replace H : (if t105 < 1 then (some (0, 0, 0, false)) else (if t105 > (t102.length : Int) then (some (0, 0, 0, false)) else (if 0 ≤ (wrap64 (t105 - 1)) then (if (wrap64 (t105 - 1)) < (t102.length : Int) then (some ((rd_T111 t102 (wrap64 (t105 - 1))).f0, (rd_T111 t102 (wrap64 (t105 - 1))).f1, (rd_T111 t102 (wrap64 (t105 - 1))).f2, true)) else (none)) else (none)))) = some (r1, r2, r3, r4) := H
 have A4 := Aside0.mk A40
 clear A40
 by_cases c5 : t105 < 1
 ·rw [if_pos c5] at H
  have c5b0 : decide (t105 < 1) = true := decide_eq_true c5
  clear c5
  simp only [Option.some.injEq, Prod.mk.injEq] at H
  obtain ⟨rfl, rfl, rfl, rfl⟩ := H
  go_enter Try.func82, Try.ntmps82
  go_wp2_with (first | ((with_reducible refine gate_dst (N := 4) rfl ?_); (try (refine gate_guard (by rfl) ?_; dsimp only)); refine box_event ?hg (N := 4) ?hd (cs := #[.int .i64 0, .int .i64 0, .int .i64 0]) (t := 111) ?hr ?_; (case hd => rfl); (case hg => rfl); (case hr => first | (go_simp; done) | (go_simp; rfl)); intro gb101 hg w6 hbox hb; have BK101 := Aside0.mk hbox; have GW101 := Aside0.mk ((by rw [hg]; exact (below_size bB) : w.heap.size ≤ gb101)); have GE101 := Aside0.mk ((by rw [hg]; exact (below_size bB) : w.heap.size ≤ gb101)); replace HB := aB HB hb; clear hb hbox hg) | ((with_reducible refine gate_callee (f := 70) rfl ?_); refine goesL_ (some 9) rfl rfl Try.func70 (by kernel_rfl) rfl #[.slice A0 l0.length c0] rfl bM ?_; (with_reducible refine (ferruleref13_All.calls k _ _ l0 t102 _ ?side1 ?side2 A3.out).mono ?_); (case side1 => exact sW (Kd.C_below HR0.out HB.out)); (case side2 => exact HC0.out); rintro e w7 ⟨v103, rfl, ho0, hb⟩; refine ⟨_, rfl, ?_⟩; have HO104 := Aside0.mk (Kd.R_lower (Kd.R_newB ho0 (g := gb101) (o := .cells #[.int .i64 0, .int .i64 0, .int .i64 0] 111 (0, 0)) (aKw BK101)) (below_size bB)); replace BK101 := aK BK101 hb; replace HB := aB HB hb; (try clear hb); (try clear hb2); (try clear hk); (try clear hi); (try clear ho0)) | ((with_reducible refine gate_callee (f := 73) rfl ?_); refine goesL_ (some 11) rfl rfl Try.func73 (by kernel_rfl) rfl #[.int .i64 a1] rfl bM ?_; (with_reducible refine (ferruleref12_Var.calls k a1 t105 _ A4.out).mono ?_); rintro e w' ⟨rfl, ⟨nd, rfl⟩⟩; refine ⟨_, rfl, ?_⟩; (try (rw [drewN_self w7]; generalize hq_ : World.drewN w7 _ = w7; have n0_ : Aside0 (Kd.R k111 111 w7 w.heap.size (fun k_ => k_ ≠ gb101) v103 t102) := ⟨by rw [← hq_]; exact (by (with_reducible repeat (first | apply Kd.R_alloc | apply Kd.R_drewN | apply Kd.R_drew)); exact Kd.R_mono HO104.out (fun _ hk => hk.2))⟩; have n1_ : Aside0 (w7.heap[gb101]? = some (.cells #[.int .i64 0, .int .i64 0, .int .i64 0] 111 (0, 0))) := ⟨by rw [← hq_]; exact (aKw BK101)⟩; have n2_ : Aside0 (Below w.heap.size w w7) := ⟨by rw [← hq_]; exact bB⟩; clear HO104 BK101 HB hq_; have HO104 := n0_; have BK101 := n1_; have HB := n2_; clear n0_ n1_ n2_)); have hcz8_0 : w7.cell? ⟨gb101, 0, none⟩ = some (.int .i64 0) := (blk_cell BK101.out 0).trans rfl; have hcz8_1 : w7.cell? ⟨gb101, 1, none⟩ = some (.int .i64 0) := (blk_cell BK101.out 1).trans rfl; have hcz8_2 : w7.cell? ⟨gb101, 2, none⟩ = some (.int .i64 0) := (blk_cell BK101.out 2).trans rfl; have hfz8_0 := blk_frozen BK101.out 0; have hfz8_1 := blk_frozen BK101.out 1; have hfz8_2 := blk_frozen BK101.out 2))
  refine bodyPost_ret (results_ct rfl _ _ gb101 111 #[.int .i64 0, .int .i64 0, .int .i64 0] (0, 0) _ rfl (by (with_reducible repeat (first | refine blk_drewN ?_ _ | refine blk_drew ?_ | refine blk_alloc ?_ _)); refine blk_put (cs := #[.int .i64 0, .int .i64 0, .int .i64 0]) ?_ 2 _ rfl; (with_reducible repeat (first | refine blk_drewN ?_ _ | refine blk_drew ?_ | refine blk_alloc ?_ _)); refine blk_put (cs := #[.int .i64 0, .int .i64 0, .int .i64 0]) ?_ 1 _ rfl; (with_reducible repeat (first | refine blk_drewN ?_ _ | refine blk_drew ?_ | refine blk_alloc ?_ _)); refine blk_put (cs := #[.int .i64 0, .int .i64 0, .int .i64 0]) ?_ 0 _ rfl; (with_reducible repeat (first | refine blk_drewN ?_ _ | refine blk_drew ?_ | refine blk_alloc ?_ _)); exact BK101.out) Try.underlying111 rfl (by kernel_rfl)) rfl ?_
  exact ⟨by first | rfl | (simp [errW_none, errW_some] <;> rfl) | (simp [*, errW_none, errW_some] <;> rfl), bB⟩
 ·rw [if_neg c5] at H
  have c5b0 : decide (t105 < 1) = false := decide_eq_false c5
  clear c5
  by_cases c9 : t105 > (t102.length : Int)
  ·rw [if_pos c9] at H
   have c9b0 : decide ((t102.length : Int) < t105) = true := decide_eq_true c9
   clear c9
   simp only [Option.some.injEq, Prod.mk.injEq] at H
   obtain ⟨rfl, rfl, rfl, rfl⟩ := H
   go_enter Try.func82, Try.ntmps82
   go_wp2_with (first | ((with_reducible refine gate_dst (N := 4) rfl ?_); (try (refine gate_guard (by rfl) ?_; dsimp only)); refine box_event ?hg (N := 4) ?hd (cs := #[.int .i64 0, .int .i64 0, .int .i64 0]) (t := 111) ?hr ?_; (case hd => rfl); (case hg => rfl); (case hr => first | (go_simp; done) | (go_simp; rfl)); intro gb101 hg w10 hbox hb; have BK101 := Aside0.mk hbox; have GW101 := Aside0.mk ((by rw [hg]; exact (below_size bB) : w.heap.size ≤ gb101)); have GE101 := Aside0.mk ((by rw [hg]; exact (below_size bB) : w.heap.size ≤ gb101)); replace HB := aB HB hb; clear hb hbox hg) | ((with_reducible refine gate_callee (f := 70) rfl ?_); refine goesL_ (some 9) rfl rfl Try.func70 (by kernel_rfl) rfl #[.slice A0 l0.length c0] rfl bM ?_; (with_reducible refine (ferruleref13_All.calls k _ _ l0 t102 _ ?side1 ?side2 A3.out).mono ?_); (case side1 => exact sW (Kd.C_below HR0.out HB.out)); (case side2 => exact HC0.out); rintro e w11 ⟨v103, rfl, ho0, hb⟩; refine ⟨_, rfl, ?_⟩; have HO104 := Aside0.mk (Kd.R_lower (Kd.R_newB ho0 (g := gb101) (o := .cells #[.int .i64 0, .int .i64 0, .int .i64 0] 111 (0, 0)) (aKw BK101)) (below_size bB)); replace BK101 := aK BK101 hb; replace HB := aB HB hb; (try clear hb); (try clear hb2); (try clear hk); (try clear hi); (try clear ho0)) | ((with_reducible refine gate_callee (f := 73) rfl ?_); refine goesL_ (some 11) rfl rfl Try.func73 (by kernel_rfl) rfl #[.int .i64 a1] rfl bM ?_; (with_reducible refine (ferruleref12_Var.calls k a1 t105 _ A4.out).mono ?_); rintro e w' ⟨rfl, ⟨nd, rfl⟩⟩; refine ⟨_, rfl, ?_⟩; (try (rw [drewN_self w11]; generalize hq_ : World.drewN w11 _ = w11; have n0_ : Aside0 (Kd.R k111 111 w11 w.heap.size (fun k_ => k_ ≠ gb101) v103 t102) := ⟨by rw [← hq_]; exact (by (with_reducible repeat (first | apply Kd.R_alloc | apply Kd.R_drewN | apply Kd.R_drew)); exact Kd.R_mono HO104.out (fun _ hk => hk.2))⟩; have n1_ : Aside0 (w11.heap[gb101]? = some (.cells #[.int .i64 0, .int .i64 0, .int .i64 0] 111 (0, 0))) := ⟨by rw [← hq_]; exact (aKw BK101)⟩; have n2_ : Aside0 (Below w.heap.size w w11) := ⟨by rw [← hq_]; exact bB⟩; clear HO104 BK101 HB hq_; have HO104 := n0_; have BK101 := n1_; have HB := n2_; clear n0_ n1_ n2_)); obtain ⟨Ao12, co12, eo12⟩ := Kd.R_slice HO104.out; subst eo12; have hcz13_0 : w11.cell? ⟨gb101, 0, none⟩ = some (.int .i64 0) := (blk_cell BK101.out 0).trans rfl; have hcz13_1 : w11.cell? ⟨gb101, 1, none⟩ = some (.int .i64 0) := (blk_cell BK101.out 1).trans rfl; have hcz13_2 : w11.cell? ⟨gb101, 2, none⟩ = some (.int .i64 0) := (blk_cell BK101.out 2).trans rfl; have hfz13_0 := blk_frozen BK101.out 0; have hfz13_1 := blk_frozen BK101.out 1; have hfz13_2 := blk_frozen BK101.out 2))
   refine bodyPost_ret (results_ct rfl _ _ gb101 111 #[.int .i64 0, .int .i64 0, .int .i64 0] (0, 0) _ rfl (by (with_reducible repeat (first | refine blk_drewN ?_ _ | refine blk_drew ?_ | refine blk_alloc ?_ _)); refine blk_put (cs := #[.int .i64 0, .int .i64 0, .int .i64 0]) ?_ 2 _ rfl; (with_reducible repeat (first | refine blk_drewN ?_ _ | refine blk_drew ?_ | refine blk_alloc ?_ _)); refine blk_put (cs := #[.int .i64 0, .int .i64 0, .int .i64 0]) ?_ 1 _ rfl; (with_reducible repeat (first | refine blk_drewN ?_ _ | refine blk_drew ?_ | refine blk_alloc ?_ _)); refine blk_put (cs := #[.int .i64 0, .int .i64 0, .int .i64 0]) ?_ 0 _ rfl; (with_reducible repeat (first | refine blk_drewN ?_ _ | refine blk_drew ?_ | refine blk_alloc ?_ _)); exact BK101.out) Try.underlying111 rfl (by kernel_rfl)) rfl ?_
   exact ⟨by first | rfl | (simp [errW_none, errW_some] <;> rfl) | (simp [*, errW_none, errW_some] <;> rfl), bB⟩
  ·rw [if_neg c9] at H
   have c9b0 : decide ((t102.length : Int) < t105) = false := decide_eq_false c9
   clear c9
   obtain ⟨ji14, hji14⟩ : ∃ j_ : Int, (wrap64 (t105 - 1)) = j_ := ⟨_, rfl⟩
   replace H : (if 0 ≤ (ji14) then (if (ji14) < (t102.length : Int) then (some ((rd_T111 t102 (ji14)).f0, (rd_T111 t102 (ji14)).f1, (rd_T111 t102 (ji14)).f2, true)) else (none)) else (none)) = some (r1, r2, r3, r4) := by first | (rw [hji14] at H; exact H) | (simp only [hji14] at H ⊢; exact H)
   (try rw [hji14] at A3)
   (try rw [hji14] at A4)
   have hji14w : (IntKind.i64.wrap (t105 - 1)) = ji14 := (i64_w _).trans hji14
   by_cases c15 : 0 ≤ (ji14)
   ·rw [if_pos c15] at H
    have c15b0 : decide (0 ≤ (ji14)) = true := decide_eq_true c15
    clear c15
    by_cases c16 : (ji14) < (t102.length : Int)
    ·rw [if_pos c16] at H
     have c16b0 : decide ((ji14) < (t102.length : Int)) = true := decide_eq_true c16
     clear c16
     simp only [Option.some.injEq, Prod.mk.injEq] at H
     obtain ⟨rfl, rfl, rfl, rfl⟩ := H
     go_enter Try.func82, Try.ntmps82
     go_wp2_with (first | ((with_reducible refine gate_dst (N := 4) rfl ?_); (try (refine gate_guard (by rfl) ?_; dsimp only)); refine box_event ?hg (N := 4) ?hd (cs := #[.int .i64 0, .int .i64 0, .int .i64 0]) (t := 111) ?hr ?_; (case hd => rfl); (case hg => rfl); (case hr => first | (go_simp; done) | (go_simp; rfl)); intro gb101 hg w17 hbox hb; have BK101 := Aside0.mk hbox; have GW101 := Aside0.mk ((by rw [hg]; exact (below_size bB) : w.heap.size ≤ gb101)); have GE101 := Aside0.mk ((by rw [hg]; exact (below_size bB) : w.heap.size ≤ gb101)); replace HB := aB HB hb; clear hb hbox hg) | ((with_reducible refine gate_callee (f := 70) rfl ?_); refine goesL_ (some 9) rfl rfl Try.func70 (by kernel_rfl) rfl #[.slice A0 l0.length c0] rfl bM ?_; (with_reducible refine (ferruleref13_All.calls k _ _ l0 t102 _ ?side1 ?side2 A3.out).mono ?_); (case side1 => exact sW (Kd.C_below HR0.out HB.out)); (case side2 => exact HC0.out); rintro e w18 ⟨v103, rfl, ho0, hb⟩; refine ⟨_, rfl, ?_⟩; have HO104 := Aside0.mk (Kd.R_lower (Kd.R_newB ho0 (g := gb101) (o := .cells #[.int .i64 0, .int .i64 0, .int .i64 0] 111 (0, 0)) (aKw BK101)) (below_size bB)); replace BK101 := aK BK101 hb; replace HB := aB HB hb; (try clear hb); (try clear hb2); (try clear hk); (try clear hi); (try clear ho0)) | ((with_reducible refine gate_callee (f := 73) rfl ?_); refine goesL_ (some 11) rfl rfl Try.func73 (by kernel_rfl) rfl #[.int .i64 a1] rfl bM ?_; (with_reducible refine (ferruleref12_Var.calls k a1 t105 _ A4.out).mono ?_); rintro e w' ⟨rfl, ⟨nd, rfl⟩⟩; refine ⟨_, rfl, ?_⟩; (try (rw [drewN_self w18]; generalize hq_ : World.drewN w18 _ = w18; have n0_ : Aside0 (Kd.R k111 111 w18 w.heap.size (fun k_ => k_ ≠ gb101) v103 t102) := ⟨by rw [← hq_]; exact (by (with_reducible repeat (first | apply Kd.R_alloc | apply Kd.R_drewN | apply Kd.R_drew)); exact Kd.R_mono HO104.out (fun _ hk => hk.2))⟩; have n1_ : Aside0 (w18.heap[gb101]? = some (.cells #[.int .i64 0, .int .i64 0, .int .i64 0] 111 (0, 0))) := ⟨by rw [← hq_]; exact (aKw BK101)⟩; have n2_ : Aside0 (Below w.heap.size w w18) := ⟨by rw [← hq_]; exact bB⟩; clear HO104 BK101 HB hq_; have HO104 := n0_; have BK101 := n1_; have HB := n2_; clear n0_ n1_ n2_)); obtain ⟨Ao19, co19, eo19⟩ := Kd.R_slice HO104.out; subst eo19; have p106 : 0 ≤ ((ji14) : Int) := oD; have q106 : (ji14) < (t102.length : Int) := oD; obtain ⟨ad106, e106, hx106_0, hx106_1, hx106_2⟩ := at_T111 (Kd.R_reads' HO104.out).2.2 (ji14) p106 q106; cases e106; replace p106 := eq_true p106; replace q106 := eq_true q106; have hcz20_0 : w18.cell? ⟨gb101, 0, none⟩ = some (.int .i64 0) := (blk_cell BK101.out 0).trans rfl; have hcz20_1 : w18.cell? ⟨gb101, 1, none⟩ = some (.int .i64 0) := (blk_cell BK101.out 1).trans rfl; have hcz20_2 : w18.cell? ⟨gb101, 2, none⟩ = some (.int .i64 0) := (blk_cell BK101.out 2).trans rfl; have hfz20_0 := blk_frozen BK101.out 0; have hfz20_1 := blk_frozen BK101.out 1; have hfz20_2 := blk_frozen BK101.out 2))
     refine bodyPost_ret (results_ct rfl _ _ gb101 111 #[.int .i64 ((rd_T111 t102 (ji14)).f0), .int .i64 ((rd_T111 t102 (ji14)).f1), .int .i64 ((rd_T111 t102 (ji14)).f2)] (0, 0) _ rfl (by (with_reducible repeat (first | refine blk_drewN ?_ _ | refine blk_drew ?_ | refine blk_alloc ?_ _)); refine blk_put (cs := #[.int .i64 ((rd_T111 t102 (ji14)).f0), .int .i64 ((rd_T111 t102 (ji14)).f1), .int .i64 0]) ?_ 2 _ rfl; (with_reducible repeat (first | refine blk_drewN ?_ _ | refine blk_drew ?_ | refine blk_alloc ?_ _)); refine blk_put (cs := #[.int .i64 ((rd_T111 t102 (ji14)).f0), .int .i64 0, .int .i64 0]) ?_ 1 _ rfl; (with_reducible repeat (first | refine blk_drewN ?_ _ | refine blk_drew ?_ | refine blk_alloc ?_ _)); refine blk_put (cs := #[.int .i64 0, .int .i64 0, .int .i64 0]) ?_ 0 _ rfl; (with_reducible repeat (first | refine blk_drewN ?_ _ | refine blk_drew ?_ | refine blk_alloc ?_ _)); exact BK101.out) Try.underlying111 rfl (by kernel_rfl)) rfl ?_
     exact ⟨by first | rfl | (simp [errW_none, errW_some] <;> rfl) | (simp only [← hji14]; first | rfl | (simp [errW_none, errW_some] <;> rfl)) | (simp [*, errW_none, errW_some] <;> rfl), bB⟩
    ·rw [if_neg c16] at H
     exact absurd H (by simp)
   ·rw [if_neg c15] at H
    exact absurd H (by simp)

end Go.Proofs.Ytcebjhbphcoboaa.X
