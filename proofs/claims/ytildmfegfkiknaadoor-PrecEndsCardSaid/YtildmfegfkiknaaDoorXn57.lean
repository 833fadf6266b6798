-- Written by a program of this session (wip/xp), out of the translation. Not trusted: Lean checks it.
import Derived.Test.YtildmfegfkiknaaDoorX0
import Derived.Test.YtildmfegfkiknaaDoorXn28
-- shrunk
namespace Go.Proofs.YtildmfegfkiknaaDoor.X
open Go.RowKit Go.Proofs.YtildmfegfkiknaaDoorW.PrintWords Go.Proofs.YtildmfegfkiknaaDoorW.PrintLast Go.Proofs.YtildmfegfkiknaaDoorW.PrintMore
attribute [local go_sem] Lab.str_gtr Lab.str_leq Lab.str_geq max2_int min2_int max_two min_two max_three min_three max_four min_four   -- for this text's walks alone
set_option linter.unusedVariables false
set_option linter.unusedSimpArgs false

/-! ### prec_end: function 57 -/
def prec_end.l0 : Nat → Int → Int → Int → Int → Option (Int × Int × Int × List ByteArray × List ByteArray × Bool)
 | 0, _, _, _, _ => none
 | k + 1, x6, x102000, x102001, x102002 => if x6 < 3 then (if x6 = 0 then (prec_end.l0 k (wrap64 (x6 + 1)) 0 x102001 x102002) else (if x6 = 1 then (prec_end.l0 k (wrap64 (x6 + 1)) x102000 0 x102002) else (if x6 = 2 then (prec_end.l0 k (wrap64 (x6 + 1)) x102000 x102001 0) else (none)))) else ((prec_First.f x102000 x102001 x102002).bind fun bt103 => (some (bt103.1, bt103.2.1, bt103.2.2.1, bt103.2.2.2.1, bt103.2.2.2.2, true)))
def prec_end.f (k : Nat) (a0_0 : Int) (a0_1 : Int) (a0_2 : Int) (a1 : Int) : Option (Int × Int × Int × List ByteArray × List ByteArray × Bool) := if a1 = 0 then (if a0_0 ≥ 9223372036854775807 then (some (0, 0, 0, ([] : List ByteArray), ([] : List ByteArray), false)) else (prec_end.l0 k (wrap64 (a1 + 1)) (IntKind.u64.wrap (a0_0 + 1)) a0_1 a0_2)) else (if a1 = 1 then (if a0_1 ≥ 9223372036854775807 then (some (0, 0, 0, ([] : List ByteArray), ([] : List ByteArray), false)) else (prec_end.l0 k (wrap64 (a1 + 1)) a0_0 (IntKind.u64.wrap (a0_1 + 1)) a0_2)) else (if a1 = 2 then (if a0_2 ≥ 9223372036854775807 then (some (0, 0, 0, ([] : List ByteArray), ([] : List ByteArray), false)) else (prec_end.l0 k (wrap64 (a1 + 1)) a0_0 a0_1 (IntKind.u64.wrap (a0_2 + 1)))) else (none)))
theorem prec_end.mono_l : ∀ k, (∀ y0 y1 y2 y3, LeO (prec_end.l0 k y0 y1 y2 y3) (prec_end.l0 (k + 1) y0 y1 y2 y3))
 | 0 => fun _ _ _ _ r h => by simp [prec_end.l0] at h
 | k + 1 => by
  have ih0 := prec_end.mono_l k
  ·intro y0 y1 y2 y3
   unfold prec_end.l0
   repeat' first
   | (with_reducible exact ih0 _ _ _ _)
   | (with_reducible exact LeO.refl _)
   | (with_reducible exact LeO.none _)
   | (with_reducible refine LeO.ite ?_ ?_)
   | (with_reducible refine LeO.bind ?_ (fun _ => ?_))
   | exact ih0 _ _ _ _
   | exact LeO.none _
   | refine LeO.ite ?_ ?_
   | refine LeO.bind ?_ (fun _ => ?_)
theorem prec_end.mono : ∀ a0 a1 a2 a3 k, LeO (prec_end.f k a0 a1 a2 a3) (prec_end.f (k + 1) a0 a1 a2 a3) := by
 intro a0 a1 a2 a3 k
 have ih0 := prec_end.mono_l k
 unfold prec_end.f
 repeat' first
   | (with_reducible exact ih0 _ _ _ _)
   | (with_reducible exact LeO.refl _)
   | (with_reducible exact LeO.none _)
   | (with_reducible refine LeO.ite ?_ ?_)
   | (with_reducible refine LeO.bind ?_ (fun _ => ?_))
   | exact ih0 _ _ _ _
   | exact LeO.none _
   | refine LeO.ite ?_ ?_
   | refine LeO.bind ?_ (fun _ => ?_)
set_option maxHeartbeats 8000000 in
set_option maxRecDepth 100000 in
theorem prec_end.calls (k : Nat) (a0_0 : Int) (a0_1 : Int) (a0_2 : Int) (a1 : Int) (r1 : Int) (r2 : Int) (r3 : Int) (r4 : List ByteArray) (r5 : List ByteArray) (r6 : Bool) (w : World) (h : prec_end.f k a0_0 a0_1 a0_2 a1 = some (r1, r2, r3, r4, r5, r6)) :
  Calls Tryd.prog 57 #[.agg #[.int .u64 a0_0, .int .u64 a0_1, .int .u64 a0_2], .int .i64 a1] w fun e w' => ∃ v3_ v4_ : Value, e = .returned (.tuple #[.agg #[.int .u64 r1, .int .u64 r2, .int .u64 r3, v3_, v4_], .bool r6]) ∧ Kd.R Kd.string 9 w' w.heap.size (fun k_ => some k_ ≠ (v4_ : Value).ownBlock) v3_ r4 ∧ Kd.R Kd.string 9 w' w.heap.size (fun k_ => some k_ ≠ (v3_ : Value).ownBlock) v4_ r5 ∧ Below w.heap.size w w' := by
 have hu67 := Tryd.underlying67
 have hu40 := Tryd.underlying40
 have HB := Aside0.mk (Below.refl w.heap.size w)
 have H : (if a1 = 0 then (if a0_0 ≥ 9223372036854775807 then (some (0, 0, 0, ([] : List ByteArray), ([] : List ByteArray), false)) else (prec_end.l0 k (wrap64 (a1 + 1)) (IntKind.u64.wrap (a0_0 + 1)) a0_1 a0_2)) else (if a1 = 1 then (if a0_1 ≥ 9223372036854775807 then (some (0, 0, 0, ([] : List ByteArray), ([] : List ByteArray), false)) else (prec_end.l0 k (wrap64 (a1 + 1)) a0_0 (IntKind.u64.wrap (a0_1 + 1)) a0_2)) else (if a1 = 2 then (if a0_2 ≥ 9223372036854775807 then (some (0, 0, 0, ([] : List ByteArray), ([] : List ByteArray), false)) else (prec_end.l0 k (wrap64 (a1 + 1)) a0_0 a0_1 (IntKind.u64.wrap (a0_2 + 1)))) else (none)))) = some (r1, r2, r3, r4, r5, r6) := h
 clear h
 by_cases c3 : a1 = 0
 ·rw [if_pos c3] at H
  have c3b0 : (a1 == 0) = true := beq_iff_eq.mpr c3
  have c3b1 : (a1 != 0) = false := bne_eq_false_iff_eq.mpr c3
  clear c3
  by_cases c4 : a0_0 ≥ 9223372036854775807
  ·rw [if_pos c4] at H
   have c4b0 : decide (9223372036854775807 ≤ a0_0) = true := decide_eq_true c4
   clear c4
   simp only [Option.some.injEq, Prod.mk.injEq] at H
   obtain ⟨rfl, rfl, rfl, rfl, rfl, rfl⟩ := H
   go_enter Tryd.func57, Tryd.ntmps57
   go_wp2_with (first | ((with_reducible refine gate_dst (N := 2) rfl ?_); refine box_event ?hg (N := 2) ?hd (cs := #[.int .u64 a0_0, .int .u64 a0_1, .int .u64 a0_2]) (t := 67) ?hr ?_; (case hd => rfl); (case hg => rfl); (case hr => first | (go_simp; done) | (go_simp; rfl)); intro gb101 hg w5 hbox hb; have BK101 := Aside0.mk hbox; have GW101 := Aside0.mk ((by rw [hg]; exact (below_size bB) : w.heap.size ≤ gb101)); have GE101 := Aside0.mk ((by rw [hg]; exact (below_size bB) : w.heap.size ≤ gb101)); replace HB := aB HB hb; clear hb hbox hg) | ((with_reducible refine gate_dst (N := 4) rfl ?_); refine box_event ?hg (N := 4) ?hd (cs := #[.int .u64 0, .int .u64 0, .int .u64 0, .slice none 0 0, .slice none 0 0]) (t := 40) ?hr ?_; (case hd => rfl); (case hg => rfl); (case hr => first | (go_simp; done) | (go_simp; rfl)); intro gb102 hg w6 hbox hb; have BK102 := Aside0.mk hbox; have GW102 := Aside0.mk ((by rw [hg]; exact (below_size bB) : w.heap.size ≤ gb102)); have GE102 := Aside0.mk ((by rw [hg]; exact (below_size bB) : w.heap.size ≤ gb102)); replace HB := aB HB hb; have NB101_102 := Aside0.mk ((by rw [hg]; exact Nat.ne_of_lt (blk_lt (g := gb101) (o := .cells #[.int .u64 a0_0, .int .u64 a0_1, .int .u64 a0_2] 67 (0, 0)) (aKw BK101)) : gb101 ≠ gb102)); have NB102_101 := Aside0.mk ((by rw [hg]; exact Nat.ne_of_gt (blk_lt (g := gb101) (o := .cells #[.int .u64 a0_0, .int .u64 a0_1, .int .u64 a0_2] 67 (0, 0)) (aKw BK101)) : gb102 ≠ gb101)); replace BK101 := aK BK101 hb; clear hb hbox hg; have ix7 : (a1 : Int) = 0 := (by first | (with_reducible assumption) | assumption | exact eq_of_beq bA | omega); have p7 : (0 ≤ (a1 : Int)) = True := eq_true (by omega); have q7 : ((a1 : Int) < 3) = True := eq_true (by omega); have t7 : (a1 : Int).toNat = 0 := (by omega); clear ix7; have hnb8 := NB101_102.out; have hnc8 := NB102_101.out; have hcz9_0 : w6.cell? ⟨gb101, 0, none⟩ = some (.int .u64 a0_0) := (blk_cell BK101.out 0).trans rfl; have hcz9_1 : w6.cell? ⟨gb101, 1, none⟩ = some (.int .u64 a0_1) := (blk_cell BK101.out 1).trans rfl; have hcz9_2 : w6.cell? ⟨gb101, 2, none⟩ = some (.int .u64 a0_2) := (blk_cell BK101.out 2).trans rfl; have hfz9_0 := blk_frozen BK101.out 0; have hfz9_1 := blk_frozen BK101.out 1; have hfz9_2 := blk_frozen BK101.out 2; have hcz10_0 : w6.cell? ⟨gb102, 0, none⟩ = some (.int .u64 0) := (blk_cell BK102.out 0).trans rfl; have hcz10_1 : w6.cell? ⟨gb102, 1, none⟩ = some (.int .u64 0) := (blk_cell BK102.out 1).trans rfl; have hcz10_2 : w6.cell? ⟨gb102, 2, none⟩ = some (.int .u64 0) := (blk_cell BK102.out 2).trans rfl; have hcz10_3 : w6.cell? ⟨gb102, 3, none⟩ = some (.slice none 0 0) := (blk_cell BK102.out 3).trans rfl; have hcz10_4 : w6.cell? ⟨gb102, 4, none⟩ = some (.slice none 0 0) := (blk_cell BK102.out 4).trans rfl; have hfz10_0 := blk_frozen BK102.out 0; have hfz10_1 := blk_frozen BK102.out 1; have hfz10_2 := blk_frozen BK102.out 2; have hfz10_3 := blk_frozen BK102.out 3; have hfz10_4 := blk_frozen BK102.out 4))
   refine bodyPost_ret (results_ct rfl _ _ gb102 40 #[.int .u64 0, .int .u64 0, .int .u64 0, .slice none 0 0, .slice none 0 0] (0, 0) _ rfl (by (with_reducible repeat (first | refine blk_drewN ?_ _ | refine blk_drew ?_ | refine blk_alloc ?_ _)); refine blk_put (cs := #[.int .u64 0, .int .u64 0, .int .u64 0, .slice none 0 0, .slice none 0 0]) ?_ 4 _ rfl; (with_reducible repeat (first | refine blk_drewN ?_ _ | refine blk_drew ?_ | refine blk_alloc ?_ _)); refine blk_put (cs := #[.int .u64 0, .int .u64 0, .int .u64 0, .slice none 0 0, .slice none 0 0]) ?_ 3 _ rfl; (with_reducible repeat (first | refine blk_drewN ?_ _ | refine blk_drew ?_ | refine blk_alloc ?_ _)); refine blk_put (cs := #[.int .u64 0, .int .u64 0, .int .u64 0, .slice none 0 0, .slice none 0 0]) ?_ 2 _ rfl; (with_reducible repeat (first | refine blk_drewN ?_ _ | refine blk_drew ?_ | refine blk_alloc ?_ _)); refine blk_put (cs := #[.int .u64 0, .int .u64 0, .int .u64 0, .slice none 0 0, .slice none 0 0]) ?_ 1 _ rfl; (with_reducible repeat (first | refine blk_drewN ?_ _ | refine blk_drew ?_ | refine blk_alloc ?_ _)); refine blk_put (cs := #[.int .u64 0, .int .u64 0, .int .u64 0, .slice none 0 0, .slice none 0 0]) ?_ 0 _ rfl; (with_reducible repeat (first | refine blk_drewN ?_ _ | refine blk_drew ?_ | refine blk_alloc ?_ _)); exact BK102.out) Tryd.underlying40 rfl (by kernel_rfl)) rfl ?_
   exact ⟨_, _, by first | rfl | (simp [errW_none, errW_some] <;> rfl) | (simp [*, errW_none, errW_some] <;> rfl), by first | exact Kd.R_nil _ _ _ _ _ | exact Kd.N_nil _ _ _ _ _ | exact Kd.V_nil _ _ _ _ _ | exact Kd.Q_nil _ _ _ _ _ | exact Kd.S_nil _ _ _ _ _, by first | exact Kd.R_nil _ _ _ _ _ | exact Kd.N_nil _ _ _ _ _ | exact Kd.V_nil _ _ _ _ _ | exact Kd.Q_nil _ _ _ _ _ | exact Kd.S_nil _ _ _ _ _, bB⟩
  ·rw [if_neg c4] at H
   have c4b0 : decide (9223372036854775807 ≤ a0_0) = false := decide_eq_false c4
   clear c4
   have H' := Aside0.mk H
   clear H
   go_enter Tryd.func57, Tryd.ntmps57
   go_wp2_with (first | ((with_reducible refine gate_dst (N := 2) rfl ?_); refine box_event ?hg (N := 2) ?hd (cs := #[.int .u64 a0_0, .int .u64 a0_1, .int .u64 a0_2]) (t := 67) ?hr ?_; (case hd => rfl); (case hg => rfl); (case hr => first | (go_simp; done) | (go_simp; rfl)); intro gb101 hg w11 hbox hb; have BK101 := Aside0.mk hbox; have GW101 := Aside0.mk ((by rw [hg]; exact (below_size bB) : w.heap.size ≤ gb101)); have GE101 := Aside0.mk ((by rw [hg]; exact (below_size bB) : w.heap.size ≤ gb101)); replace HB := aB HB hb; clear hb hbox hg) | ((with_reducible refine gate_dst (N := 4) rfl ?_); refine box_event ?hg (N := 4) ?hd (cs := #[.int .u64 0, .int .u64 0, .int .u64 0, .slice none 0 0, .slice none 0 0]) (t := 40) ?hr ?_; (case hd => rfl); (case hg => rfl); (case hr => first | (go_simp; done) | (go_simp; rfl)); intro gb102 hg w12 hbox hb; have BK102 := Aside0.mk hbox; have GW102 := Aside0.mk ((by rw [hg]; exact (below_size bB) : w.heap.size ≤ gb102)); have GE102 := Aside0.mk ((by rw [hg]; exact (below_size bB) : w.heap.size ≤ gb102)); replace HB := aB HB hb; have NB101_102 := Aside0.mk ((by rw [hg]; exact Nat.ne_of_lt (blk_lt (g := gb101) (o := .cells #[.int .u64 a0_0, .int .u64 a0_1, .int .u64 a0_2] 67 (0, 0)) (aKw BK101)) : gb101 ≠ gb102)); have NB102_101 := Aside0.mk ((by rw [hg]; exact Nat.ne_of_gt (blk_lt (g := gb101) (o := .cells #[.int .u64 a0_0, .int .u64 a0_1, .int .u64 a0_2] 67 (0, 0)) (aKw BK101)) : gb102 ≠ gb101)); replace BK101 := aK BK101 hb; clear hb hbox hg; have ix13 : (a1 : Int) = 0 := (by first | (with_reducible assumption) | assumption | exact eq_of_beq bA | omega); have p13 : (0 ≤ (a1 : Int)) = True := eq_true (by omega); have q13 : ((a1 : Int) < 3) = True := eq_true (by omega); have t13 : (a1 : Int).toNat = 0 := (by omega); clear ix13; have hnb14 := NB101_102.out; have hnc14 := NB102_101.out; have hcz15_0 : w12.cell? ⟨gb101, 0, none⟩ = some (.int .u64 a0_0) := (blk_cell BK101.out 0).trans rfl; have hcz15_1 : w12.cell? ⟨gb101, 1, none⟩ = some (.int .u64 a0_1) := (blk_cell BK101.out 1).trans rfl; have hcz15_2 : w12.cell? ⟨gb101, 2, none⟩ = some (.int .u64 a0_2) := (blk_cell BK101.out 2).trans rfl; have hfz15_0 := blk_frozen BK101.out 0; have hfz15_1 := blk_frozen BK101.out 1; have hfz15_2 := blk_frozen BK101.out 2; have ix16 : (a1 : Int) = 0 := (by first | (with_reducible assumption) | assumption | exact eq_of_beq bA | omega); have p16 : (0 ≤ (a1 : Int)) = True := eq_true (by omega); have q16 : ((a1 : Int) < 3) = True := eq_true (by omega); have t16 : (a1 : Int).toNat = 0 := (by omega); clear ix16; have ix17 : (a1 : Int) = 0 := (by first | (with_reducible assumption) | assumption | exact eq_of_beq bA | omega); have p17 : (0 ≤ (a1 : Int)) = True := eq_true (by omega); have q17 : ((a1 : Int) < 3) = True := eq_true (by omega); have t17 : (a1 : Int).toNat = 0 := (by omega); clear ix17))
   go_loopg [6] k (fun kq v6 w' => ∃ (x6_1 : Int) (x102000_1 : Int) (x102001_1 : Int) (x102002_1 : Int), v6 = .int .i64 x6_1 ∧ Aside0 (prec_end.l0 kq x6_1 x102000_1 x102001_1 x102002_1 = some (r1, r2, r3, r4, r5, r6)) ∧ Aside0 (kq ≤ k) ∧ Aside0 (w'.heap[gb101]? = some (.cells #[.int .u64 x102000_1, .int .u64 x102001_1, .int .u64 x102002_1] 67 (0, 0))) ∧ Aside0 (w'.heap[gb102]? = some (.cells #[.int .u64 0, .int .u64 0, .int .u64 0, (.slice none 0 0), (.slice none 0 0)] 40 (0, 0))) ∧ Aside0 (Below w.heap.size w w'))
   case atStart => exact ⟨(wrap64 (a1 + 1)), (IntKind.u64.wrap (a0_0 + 1)), (a0_1), (a0_2), bS, H', ⟨Nat.le_refl _⟩, ⟨by (with_reducible repeat (first | refine blk_drewN ?_ _ | refine blk_drew ?_ | refine blk_alloc ?_ _)); refine blk_put (cs := #[.int .u64 a0_0, .int .u64 a0_1, .int .u64 a0_2]) ?_ 0 _ rfl; (with_reducible repeat (first | refine blk_drewN ?_ _ | refine blk_drew ?_ | refine blk_alloc ?_ _)); exact BK101.out⟩, ⟨aKf BK102⟩, ⟨bB⟩⟩
   case round =>
    clear H'
    try clear c1
    try clear p1
    try clear q1
    try clear p2
    try clear c3
    try clear c3b0
    try clear c3b1
    try clear c4
    try clear c4b0
    try clear c5
    try clear p6
    try clear p7
    try clear q7
    try clear c8
    try clear p13
    try clear q13
    try clear c14
    try clear p16
    try clear q16
    try clear p17
    try clear q17
    try clear hcz10_0
    try clear hcz10_1
    try clear hcz10_2
    try clear hcz10_3
    try clear hcz10_4
    try clear hcz15_0
    try clear hcz15_1
    try clear hcz15_2
    try clear hcz9_0
    try clear hcz9_1
    try clear hcz9_2
    try clear hfz10_0
    try clear hfz10_1
    try clear hfz10_2
    try clear hfz10_3
    try clear hfz10_4
    try clear hfz15_0
    try clear hfz15_1
    try clear hfz15_2
    try clear hfz9_0
    try clear hfz9_1
    try clear hfz9_2
    try clear p13
    try clear p16
    try clear p17
    try clear p7
    try clear q13
    try clear q16
    try clear q17
    try clear q7
    obtain ⟨x6_1, x102000_1, x102001_1, x102002_1, rfl, HA, HK1, BK101, BK102, HB⟩ := hrel
    cases gk with
    | zero => exact absurd HA.out (by simp [prec_end.l0])
    | succ k1 =>
     have H := HA.out
     clear HA
     simp only [prec_end.l0] at H
     by_cases c18 : x6_1 < 3
     ·rw [if_pos c18] at H
      have c18b0 : decide (x6_1 < 3) = true := decide_eq_true c18
      clear c18
      by_cases c19 : x6_1 = 0
      ·rw [if_pos c19] at H
       have c19b0 : (x6_1 == 0) = true := beq_iff_eq.mpr c19
       have c19b1 : (x6_1 != 0) = false := bne_eq_false_iff_eq.mpr c19
       clear c19
       have H' := Aside0.mk H
       clear H
       have ix20 : (x6_1 : Int) = 0 := (by first | (with_reducible assumption) | assumption | exact eq_of_beq bA | omega)
       have p20 : (0 ≤ (x6_1 : Int)) = True := eq_true (by omega)
       have q20 : ((x6_1 : Int) < 3) = True := eq_true (by omega)
       have t20 : (x6_1 : Int).toNat = 0 := (by omega)
       clear ix20
       have hnb21 := NB101_102.out
       have hnc21 := NB102_101.out
       have hcz22_0 : wr.cell? ⟨gb101, 0, none⟩ = some (.int .u64 x102000_1) := (blk_cell BK101.out 0).trans rfl
       have hcz22_1 : wr.cell? ⟨gb101, 1, none⟩ = some (.int .u64 x102001_1) := (blk_cell BK101.out 1).trans rfl
       have hcz22_2 : wr.cell? ⟨gb101, 2, none⟩ = some (.int .u64 x102002_1) := (blk_cell BK101.out 2).trans rfl
       have hfz22_0 := blk_frozen BK101.out 0
       have hfz22_1 := blk_frozen BK101.out 1
       have hfz22_2 := blk_frozen BK101.out 2
       go_wp2
       go_roundg k1
       case measure => have := HK1.out; omega
       case rel => exact ⟨(wrap64 (x6_1 + 1)), (0), (x102001_1), (x102002_1), bS, H', ⟨by have := HK1.out; omega⟩, ⟨by (with_reducible repeat (first | refine blk_drewN ?_ _ | refine blk_drew ?_ | refine blk_alloc ?_ _)); refine blk_put (cs := #[.int .u64 x102000_1, .int .u64 x102001_1, .int .u64 x102002_1]) ?_ 0 _ rfl; (with_reducible repeat (first | refine blk_drewN ?_ _ | refine blk_drew ?_ | refine blk_alloc ?_ _)); exact BK101.out⟩, ⟨aKf BK102⟩, ⟨bB⟩⟩
      ·rw [if_neg c19] at H
       have c19b0 : (x6_1 == 0) = false := beq_eq_false_iff_ne.mpr c19
       have c19b1 : (x6_1 != 0) = true := bne_iff_ne.mpr c19
       by_cases c23 : x6_1 = 1
       ·rw [if_pos c23] at H
        have c23b0 : (x6_1 == 1) = true := beq_iff_eq.mpr c23
        have c23b1 : (x6_1 != 1) = false := bne_eq_false_iff_eq.mpr c23
        clear c23
        have H' := Aside0.mk H
        clear H
        have ix24 : (x6_1 : Int) = 1 := (by first | (with_reducible assumption) | assumption | exact eq_of_beq bA | omega)
        have p24 : (0 ≤ (x6_1 : Int)) = True := eq_true (by omega)
        have q24 : ((x6_1 : Int) < 3) = True := eq_true (by omega)
        have t24 : (x6_1 : Int).toNat = 1 := (by omega)
        clear ix24
        have hnb25 := NB101_102.out
        have hnc25 := NB102_101.out
        have hcz26_0 : wr.cell? ⟨gb101, 0, none⟩ = some (.int .u64 x102000_1) := (blk_cell BK101.out 0).trans rfl
        have hcz26_1 : wr.cell? ⟨gb101, 1, none⟩ = some (.int .u64 x102001_1) := (blk_cell BK101.out 1).trans rfl
        have hcz26_2 : wr.cell? ⟨gb101, 2, none⟩ = some (.int .u64 x102002_1) := (blk_cell BK101.out 2).trans rfl
        have hfz26_0 := blk_frozen BK101.out 0
        have hfz26_1 := blk_frozen BK101.out 1
        have hfz26_2 := blk_frozen BK101.out 2
        go_wp2
        go_roundg k1
        case measure => have := HK1.out; omega
        case rel => exact ⟨(wrap64 (x6_1 + 1)), (x102000_1), (0), (x102002_1), bS, H', ⟨by have := HK1.out; omega⟩, ⟨by (with_reducible repeat (first | refine blk_drewN ?_ _ | refine blk_drew ?_ | refine blk_alloc ?_ _)); refine blk_put (cs := #[.int .u64 x102000_1, .int .u64 x102001_1, .int .u64 x102002_1]) ?_ 1 _ rfl; (with_reducible repeat (first | refine blk_drewN ?_ _ | refine blk_drew ?_ | refine blk_alloc ?_ _)); exact BK101.out⟩, ⟨aKf BK102⟩, ⟨bB⟩⟩
       ·rw [if_neg c23] at H
        have c23b0 : (x6_1 == 1) = false := beq_eq_false_iff_ne.mpr c23
        have c23b1 : (x6_1 != 1) = true := bne_iff_ne.mpr c23
        by_cases c27 : x6_1 = 2
        ·rw [if_pos c27] at H
         have c27b0 : (x6_1 == 2) = true := beq_iff_eq.mpr c27
         have c27b1 : (x6_1 != 2) = false := bne_eq_false_iff_eq.mpr c27
         clear c27
         have H' := Aside0.mk H
         clear H
         have ix28 : (x6_1 : Int) = 2 := (by first | (with_reducible assumption) | assumption | exact eq_of_beq bA | omega)
         have p28 : (0 ≤ (x6_1 : Int)) = True := eq_true (by omega)
         have q28 : ((x6_1 : Int) < 3) = True := eq_true (by omega)
         have t28 : (x6_1 : Int).toNat = 2 := (by omega)
         clear ix28
         have hnb29 := NB101_102.out
         have hnc29 := NB102_101.out
         have hcz30_0 : wr.cell? ⟨gb101, 0, none⟩ = some (.int .u64 x102000_1) := (blk_cell BK101.out 0).trans rfl
         have hcz30_1 : wr.cell? ⟨gb101, 1, none⟩ = some (.int .u64 x102001_1) := (blk_cell BK101.out 1).trans rfl
         have hcz30_2 : wr.cell? ⟨gb101, 2, none⟩ = some (.int .u64 x102002_1) := (blk_cell BK101.out 2).trans rfl
         have hfz30_0 := blk_frozen BK101.out 0
         have hfz30_1 := blk_frozen BK101.out 1
         have hfz30_2 := blk_frozen BK101.out 2
         go_wp2
         go_roundg k1
         case measure => have := HK1.out; omega
         case rel => exact ⟨(wrap64 (x6_1 + 1)), (x102000_1), (x102001_1), (0), bS, H', ⟨by have := HK1.out; omega⟩, ⟨by (with_reducible repeat (first | refine blk_drewN ?_ _ | refine blk_drew ?_ | refine blk_alloc ?_ _)); refine blk_put (cs := #[.int .u64 x102000_1, .int .u64 x102001_1, .int .u64 x102002_1]) ?_ 2 _ rfl; (with_reducible repeat (first | refine blk_drewN ?_ _ | refine blk_drew ?_ | refine blk_alloc ?_ _)); exact BK101.out⟩, ⟨aKf BK102⟩, ⟨bB⟩⟩
        ·rw [if_neg c27] at H
         exact absurd H (by simp)
     ·rw [if_neg c18] at H
      have c18b0 : decide (x6_1 < 3) = false := decide_eq_false c18
      clear c18
      replace H := Option.bind_eq_some_iff.mp H
      obtain ⟨⟨t103, t104, t105, t106, t109⟩, A310, H⟩ := H
      replace H : (some (t103, t104, t105, t106, t109, true)) = some (r1, r2, r3, r4, r5, r6) := H
      have A31 := Aside0.mk A310
      clear A310
      simp only [Option.some.injEq, Prod.mk.injEq] at H
      obtain ⟨rfl, rfl, rfl, rfl, rfl, rfl⟩ := H
      have hnb32 := NB101_102.out
      have hnc32 := NB102_101.out
      have hcz33_0 : wr.cell? ⟨gb101, 0, none⟩ = some (.int .u64 x102000_1) := (blk_cell BK101.out 0).trans rfl
      have hcz33_1 : wr.cell? ⟨gb101, 1, none⟩ = some (.int .u64 x102001_1) := (blk_cell BK101.out 1).trans rfl
      have hcz33_2 : wr.cell? ⟨gb101, 2, none⟩ = some (.int .u64 x102002_1) := (blk_cell BK101.out 2).trans rfl
      have hfz33_0 := blk_frozen BK101.out 0
      have hfz33_1 := blk_frozen BK101.out 1
      have hfz33_2 := blk_frozen BK101.out 2
      go_wp2_with (first | ((with_reducible refine gate_callee (f := 28) rfl ?_); refine goesL_ (some 31) rfl rfl Tryd.func28 (by kernel_rfl) rfl #[.int .u64 x102000_1, .int .u64 x102001_1, .int .u64 x102002_1] rfl bM ?_; (with_reducible refine (prec_First.calls x102000_1 x102001_1 x102002_1 t103 t104 t105 t106 t109 _ A31.out).mono ?_); rintro e w34 ⟨v107, v110, rfl, ho0, ho1, hb⟩; refine ⟨_, rfl, ?_⟩; have HO108 := aL ho0 HB; have HO111 := aL ho1 HB; replace BK101 := aK BK101 hb; replace BK102 := aK BK102 hb; replace HB := aB HB hb; (try clear hb); (try clear hb2); (try clear hk); (try clear hi); (try clear ho0); (try clear ho1); have hcz35_0 : w34.cell? ⟨gb102, 0, none⟩ = some (.int .u64 0) := (blk_cell BK102.out 0).trans rfl; have hcz35_1 : w34.cell? ⟨gb102, 1, none⟩ = some (.int .u64 0) := (blk_cell BK102.out 1).trans rfl; have hcz35_2 : w34.cell? ⟨gb102, 2, none⟩ = some (.int .u64 0) := (blk_cell BK102.out 2).trans rfl; have hcz35_3 : w34.cell? ⟨gb102, 3, none⟩ = some (.slice none 0 0) := (blk_cell BK102.out 3).trans rfl; have hcz35_4 : w34.cell? ⟨gb102, 4, none⟩ = some (.slice none 0 0) := (blk_cell BK102.out 4).trans rfl; have hfz35_0 := blk_frozen BK102.out 0; have hfz35_1 := blk_frozen BK102.out 1; have hfz35_2 := blk_frozen BK102.out 2; have hfz35_3 := blk_frozen BK102.out 3; have hfz35_4 := blk_frozen BK102.out 4; obtain ⟨Ao36, co36, eo36⟩ := Kd.R_slice HO108.out; subst eo36; obtain ⟨Ao37, co37, eo37⟩ := Kd.R_slice HO111.out; subst eo37))
      refine bodyPost_ret (results_ct rfl _ _ gb102 40 #[.int .u64 t103, .int .u64 t104, .int .u64 t105, .slice Ao36 t106.length co36, .slice Ao37 t109.length co37] (0, 0) _ rfl (by (with_reducible repeat (first | refine blk_drewN ?_ _ | refine blk_drew ?_ | refine blk_alloc ?_ _)); refine blk_put (cs := #[.int .u64 t103, .int .u64 t104, .int .u64 t105, .slice Ao36 t106.length co36, .slice none 0 0]) ?_ 4 _ rfl; (with_reducible repeat (first | refine blk_drewN ?_ _ | refine blk_drew ?_ | refine blk_alloc ?_ _)); refine blk_put (cs := #[.int .u64 t103, .int .u64 t104, .int .u64 t105, .slice none 0 0, .slice none 0 0]) ?_ 3 _ rfl; (with_reducible repeat (first | refine blk_drewN ?_ _ | refine blk_drew ?_ | refine blk_alloc ?_ _)); refine blk_put (cs := #[.int .u64 t103, .int .u64 t104, .int .u64 0, .slice none 0 0, .slice none 0 0]) ?_ 2 _ rfl; (with_reducible repeat (first | refine blk_drewN ?_ _ | refine blk_drew ?_ | refine blk_alloc ?_ _)); refine blk_put (cs := #[.int .u64 t103, .int .u64 0, .int .u64 0, .slice none 0 0, .slice none 0 0]) ?_ 1 _ rfl; (with_reducible repeat (first | refine blk_drewN ?_ _ | refine blk_drew ?_ | refine blk_alloc ?_ _)); refine blk_put (cs := #[.int .u64 0, .int .u64 0, .int .u64 0, .slice none 0 0, .slice none 0 0]) ?_ 0 _ rfl; (with_reducible repeat (first | refine blk_drewN ?_ _ | refine blk_drew ?_ | refine blk_alloc ?_ _)); exact BK102.out) Tryd.underlying40 rfl (by kernel_rfl)) rfl ?_
      exact ⟨_, _, by first | rfl | (simp [errW_none, errW_some] <;> rfl) | (simp [*, errW_none, errW_some] <;> rfl), by (with_reducible repeat (first | apply Kd.R_alloc | apply Kd.R_drewN | apply Kd.R_drew)); exact Kd.R_mono (aG HO108 BK102) (fun _ hk => hk.1), by (with_reducible repeat (first | apply Kd.R_alloc | apply Kd.R_drewN | apply Kd.R_drew)); exact Kd.R_mono (aG HO111 BK102) (fun _ hk => hk.1), bB⟩
 ·rw [if_neg c3] at H
  have c3b0 : (a1 == 0) = false := beq_eq_false_iff_ne.mpr c3
  have c3b1 : (a1 != 0) = true := bne_iff_ne.mpr c3
  by_cases c38 : a1 = 1
  ·rw [if_pos c38] at H
   have c38b0 : (a1 == 1) = true := beq_iff_eq.mpr c38
   have c38b1 : (a1 != 1) = false := bne_eq_false_iff_eq.mpr c38
   clear c38
   by_cases c39 : a0_1 ≥ 9223372036854775807
   ·rw [if_pos c39] at H
    have c39b0 : decide (9223372036854775807 ≤ a0_1) = true := decide_eq_true c39
    clear c39
    simp only [Option.some.injEq, Prod.mk.injEq] at H
    obtain ⟨rfl, rfl, rfl, rfl, rfl, rfl⟩ := H
    go_enter Tryd.func57, Tryd.ntmps57
    go_wp2_with (first | ((with_reducible refine gate_dst (N := 2) rfl ?_); refine box_event ?hg (N := 2) ?hd (cs := #[.int .u64 a0_0, .int .u64 a0_1, .int .u64 a0_2]) (t := 67) ?hr ?_; (case hd => rfl); (case hg => rfl); (case hr => first | (go_simp; done) | (go_simp; rfl)); intro gb101 hg w40 hbox hb; have BK101 := Aside0.mk hbox; have GW101 := Aside0.mk ((by rw [hg]; exact (below_size bB) : w.heap.size ≤ gb101)); have GE101 := Aside0.mk ((by rw [hg]; exact (below_size bB) : w.heap.size ≤ gb101)); replace HB := aB HB hb; clear hb hbox hg) | ((with_reducible refine gate_dst (N := 4) rfl ?_); refine box_event ?hg (N := 4) ?hd (cs := #[.int .u64 0, .int .u64 0, .int .u64 0, .slice none 0 0, .slice none 0 0]) (t := 40) ?hr ?_; (case hd => rfl); (case hg => rfl); (case hr => first | (go_simp; done) | (go_simp; rfl)); intro gb102 hg w41 hbox hb; have BK102 := Aside0.mk hbox; have GW102 := Aside0.mk ((by rw [hg]; exact (below_size bB) : w.heap.size ≤ gb102)); have GE102 := Aside0.mk ((by rw [hg]; exact (below_size bB) : w.heap.size ≤ gb102)); replace HB := aB HB hb; have NB101_102 := Aside0.mk ((by rw [hg]; exact Nat.ne_of_lt (blk_lt (g := gb101) (o := .cells #[.int .u64 a0_0, .int .u64 a0_1, .int .u64 a0_2] 67 (0, 0)) (aKw BK101)) : gb101 ≠ gb102)); have NB102_101 := Aside0.mk ((by rw [hg]; exact Nat.ne_of_gt (blk_lt (g := gb101) (o := .cells #[.int .u64 a0_0, .int .u64 a0_1, .int .u64 a0_2] 67 (0, 0)) (aKw BK101)) : gb102 ≠ gb101)); replace BK101 := aK BK101 hb; clear hb hbox hg; have ix42 : (a1 : Int) = 1 := (by first | (with_reducible assumption) | assumption | exact eq_of_beq bA | omega); have p42 : (0 ≤ (a1 : Int)) = True := eq_true (by omega); have q42 : ((a1 : Int) < 3) = True := eq_true (by omega); have t42 : (a1 : Int).toNat = 1 := (by omega); clear ix42; have hnb43 := NB101_102.out; have hnc43 := NB102_101.out; have hcz44_0 : w41.cell? ⟨gb101, 0, none⟩ = some (.int .u64 a0_0) := (blk_cell BK101.out 0).trans rfl; have hcz44_1 : w41.cell? ⟨gb101, 1, none⟩ = some (.int .u64 a0_1) := (blk_cell BK101.out 1).trans rfl; have hcz44_2 : w41.cell? ⟨gb101, 2, none⟩ = some (.int .u64 a0_2) := (blk_cell BK101.out 2).trans rfl; have hfz44_0 := blk_frozen BK101.out 0; have hfz44_1 := blk_frozen BK101.out 1; have hfz44_2 := blk_frozen BK101.out 2; have hcz45_0 : w41.cell? ⟨gb102, 0, none⟩ = some (.int .u64 0) := (blk_cell BK102.out 0).trans rfl; have hcz45_1 : w41.cell? ⟨gb102, 1, none⟩ = some (.int .u64 0) := (blk_cell BK102.out 1).trans rfl; have hcz45_2 : w41.cell? ⟨gb102, 2, none⟩ = some (.int .u64 0) := (blk_cell BK102.out 2).trans rfl; have hcz45_3 : w41.cell? ⟨gb102, 3, none⟩ = some (.slice none 0 0) := (blk_cell BK102.out 3).trans rfl; have hcz45_4 : w41.cell? ⟨gb102, 4, none⟩ = some (.slice none 0 0) := (blk_cell BK102.out 4).trans rfl; have hfz45_0 := blk_frozen BK102.out 0; have hfz45_1 := blk_frozen BK102.out 1; have hfz45_2 := blk_frozen BK102.out 2; have hfz45_3 := blk_frozen BK102.out 3; have hfz45_4 := blk_frozen BK102.out 4))
    refine bodyPost_ret (results_ct rfl _ _ gb102 40 #[.int .u64 0, .int .u64 0, .int .u64 0, .slice none 0 0, .slice none 0 0] (0, 0) _ rfl (by (with_reducible repeat (first | refine blk_drewN ?_ _ | refine blk_drew ?_ | refine blk_alloc ?_ _)); refine blk_put (cs := #[.int .u64 0, .int .u64 0, .int .u64 0, .slice none 0 0, .slice none 0 0]) ?_ 4 _ rfl; (with_reducible repeat (first | refine blk_drewN ?_ _ | refine blk_drew ?_ | refine blk_alloc ?_ _)); refine blk_put (cs := #[.int .u64 0, .int .u64 0, .int .u64 0, .slice none 0 0, .slice none 0 0]) ?_ 3 _ rfl; (with_reducible repeat (first | refine blk_drewN ?_ _ | refine blk_drew ?_ | refine blk_alloc ?_ _)); refine blk_put (cs := #[.int .u64 0, .int .u64 0, .int .u64 0, .slice none 0 0, .slice none 0 0]) ?_ 2 _ rfl; (with_reducible repeat (first | refine blk_drewN ?_ _ | refine blk_drew ?_ | refine blk_alloc ?_ _)); refine blk_put (cs := #[.int .u64 0, .int .u64 0, .int .u64 0, .slice none 0 0, .slice none 0 0]) ?_ 1 _ rfl; (with_reducible repeat (first | refine blk_drewN ?_ _ | refine blk_drew ?_ | refine blk_alloc ?_ _)); refine blk_put (cs := #[.int .u64 0, .int .u64 0, .int .u64 0, .slice none 0 0, .slice none 0 0]) ?_ 0 _ rfl; (with_reducible repeat (first | refine blk_drewN ?_ _ | refine blk_drew ?_ | refine blk_alloc ?_ _)); exact BK102.out) Tryd.underlying40 rfl (by kernel_rfl)) rfl ?_
    exact ⟨_, _, by first | rfl | (simp [errW_none, errW_some] <;> rfl) | (simp [*, errW_none, errW_some] <;> rfl), by first | exact Kd.R_nil _ _ _ _ _ | exact Kd.N_nil _ _ _ _ _ | exact Kd.V_nil _ _ _ _ _ | exact Kd.Q_nil _ _ _ _ _ | exact Kd.S_nil _ _ _ _ _, by first | exact Kd.R_nil _ _ _ _ _ | exact Kd.N_nil _ _ _ _ _ | exact Kd.V_nil _ _ _ _ _ | exact Kd.Q_nil _ _ _ _ _ | exact Kd.S_nil _ _ _ _ _, bB⟩
   ·rw [if_neg c39] at H
    have c39b0 : decide (9223372036854775807 ≤ a0_1) = false := decide_eq_false c39
    clear c39
    have H' := Aside0.mk H
    clear H
    go_enter Tryd.func57, Tryd.ntmps57
    go_wp2_with (first | ((with_reducible refine gate_dst (N := 2) rfl ?_); refine box_event ?hg (N := 2) ?hd (cs := #[.int .u64 a0_0, .int .u64 a0_1, .int .u64 a0_2]) (t := 67) ?hr ?_; (case hd => rfl); (case hg => rfl); (case hr => first | (go_simp; done) | (go_simp; rfl)); intro gb101 hg w46 hbox hb; have BK101 := Aside0.mk hbox; have GW101 := Aside0.mk ((by rw [hg]; exact (below_size bB) : w.heap.size ≤ gb101)); have GE101 := Aside0.mk ((by rw [hg]; exact (below_size bB) : w.heap.size ≤ gb101)); replace HB := aB HB hb; clear hb hbox hg) | ((with_reducible refine gate_dst (N := 4) rfl ?_); refine box_event ?hg (N := 4) ?hd (cs := #[.int .u64 0, .int .u64 0, .int .u64 0, .slice none 0 0, .slice none 0 0]) (t := 40) ?hr ?_; (case hd => rfl); (case hg => rfl); (case hr => first | (go_simp; done) | (go_simp; rfl)); intro gb102 hg w47 hbox hb; have BK102 := Aside0.mk hbox; have GW102 := Aside0.mk ((by rw [hg]; exact (below_size bB) : w.heap.size ≤ gb102)); have GE102 := Aside0.mk ((by rw [hg]; exact (below_size bB) : w.heap.size ≤ gb102)); replace HB := aB HB hb; have NB101_102 := Aside0.mk ((by rw [hg]; exact Nat.ne_of_lt (blk_lt (g := gb101) (o := .cells #[.int .u64 a0_0, .int .u64 a0_1, .int .u64 a0_2] 67 (0, 0)) (aKw BK101)) : gb101 ≠ gb102)); have NB102_101 := Aside0.mk ((by rw [hg]; exact Nat.ne_of_gt (blk_lt (g := gb101) (o := .cells #[.int .u64 a0_0, .int .u64 a0_1, .int .u64 a0_2] 67 (0, 0)) (aKw BK101)) : gb102 ≠ gb101)); replace BK101 := aK BK101 hb; clear hb hbox hg; have ix48 : (a1 : Int) = 1 := (by first | (with_reducible assumption) | assumption | exact eq_of_beq bA | omega); have p48 : (0 ≤ (a1 : Int)) = True := eq_true (by omega); have q48 : ((a1 : Int) < 3) = True := eq_true (by omega); have t48 : (a1 : Int).toNat = 1 := (by omega); clear ix48; have hnb49 := NB101_102.out; have hnc49 := NB102_101.out; have hcz50_0 : w47.cell? ⟨gb101, 0, none⟩ = some (.int .u64 a0_0) := (blk_cell BK101.out 0).trans rfl; have hcz50_1 : w47.cell? ⟨gb101, 1, none⟩ = some (.int .u64 a0_1) := (blk_cell BK101.out 1).trans rfl; have hcz50_2 : w47.cell? ⟨gb101, 2, none⟩ = some (.int .u64 a0_2) := (blk_cell BK101.out 2).trans rfl; have hfz50_0 := blk_frozen BK101.out 0; have hfz50_1 := blk_frozen BK101.out 1; have hfz50_2 := blk_frozen BK101.out 2; have ix51 : (a1 : Int) = 1 := (by first | (with_reducible assumption) | assumption | exact eq_of_beq bA | omega); have p51 : (0 ≤ (a1 : Int)) = True := eq_true (by omega); have q51 : ((a1 : Int) < 3) = True := eq_true (by omega); have t51 : (a1 : Int).toNat = 1 := (by omega); clear ix51; have ix52 : (a1 : Int) = 1 := (by first | (with_reducible assumption) | assumption | exact eq_of_beq bA | omega); have p52 : (0 ≤ (a1 : Int)) = True := eq_true (by omega); have q52 : ((a1 : Int) < 3) = True := eq_true (by omega); have t52 : (a1 : Int).toNat = 1 := (by omega); clear ix52))
    go_loopg [6] k (fun kq v6 w' => ∃ (x6_1 : Int) (x102000_1 : Int) (x102001_1 : Int) (x102002_1 : Int), v6 = .int .i64 x6_1 ∧ Aside0 (prec_end.l0 kq x6_1 x102000_1 x102001_1 x102002_1 = some (r1, r2, r3, r4, r5, r6)) ∧ Aside0 (kq ≤ k) ∧ Aside0 (w'.heap[gb101]? = some (.cells #[.int .u64 x102000_1, .int .u64 x102001_1, .int .u64 x102002_1] 67 (0, 0))) ∧ Aside0 (w'.heap[gb102]? = some (.cells #[.int .u64 0, .int .u64 0, .int .u64 0, (.slice none 0 0), (.slice none 0 0)] 40 (0, 0))) ∧ Aside0 (Below w.heap.size w w'))
    case atStart => exact ⟨(wrap64 (a1 + 1)), (a0_0), (IntKind.u64.wrap (a0_1 + 1)), (a0_2), bS, H', ⟨Nat.le_refl _⟩, ⟨by (with_reducible repeat (first | refine blk_drewN ?_ _ | refine blk_drew ?_ | refine blk_alloc ?_ _)); refine blk_put (cs := #[.int .u64 a0_0, .int .u64 a0_1, .int .u64 a0_2]) ?_ 1 _ rfl; (with_reducible repeat (first | refine blk_drewN ?_ _ | refine blk_drew ?_ | refine blk_alloc ?_ _)); exact BK101.out⟩, ⟨aKf BK102⟩, ⟨bB⟩⟩
    case round =>
     clear H'
     try clear c1
     try clear p1
     try clear q1
     try clear c2
     try clear p2
     try clear q2
     try clear c3
     try clear c3b0
     try clear c3b1
     try clear c4
     try clear c4b0
     try clear p4
     try clear q4
     try clear c5
     try clear p5
     try clear q5
     try clear p6
     try clear p7
     try clear q7
     try clear c8
     try clear p13
     try clear q13
     try clear c14
     try clear p16
     try clear q16
     try clear p17
     try clear q17
     try clear c18
     try clear c18b0
     try clear c19
     try clear c19b0
     try clear c19b1
     try clear p20
     try clear q20
     try clear c21
     try clear c23
     try clear c23b0
     try clear c23b1
     try clear p24
     try clear q24
     try clear c25
     try clear c27
     try clear c27b0
     try clear c27b1
     try clear c28
     try clear p28
     try clear q28
     try clear c29
     try clear c32
     try clear c38
     try clear c38b0
     try clear c38b1
     try clear c39
     try clear c39b0
     try clear p42
     try clear q42
     try clear c43
     try clear p48
     try clear q48
     try clear c49
     try clear p51
     try clear q51
     try clear p52
     try clear q52
     try clear hcz10_0
     try clear hcz10_1
     try clear hcz10_2
     try clear hcz10_3
     try clear hcz10_4
     try clear hcz15_0
     try clear hcz15_1
     try clear hcz15_2
     try clear hcz22_0
     try clear hcz22_1
     try clear hcz22_2
     try clear hcz26_0
     try clear hcz26_1
     try clear hcz26_2
     try clear hcz30_0
     try clear hcz30_1
     try clear hcz30_2
     try clear hcz33_0
     try clear hcz33_1
     try clear hcz33_2
     try clear hcz35_0
     try clear hcz35_1
     try clear hcz35_2
     try clear hcz35_3
     try clear hcz35_4
     try clear hcz44_0
     try clear hcz44_1
     try clear hcz44_2
     try clear hcz45_0
     try clear hcz45_1
     try clear hcz45_2
     try clear hcz45_3
     try clear hcz45_4
     try clear hcz50_0
     try clear hcz50_1
     try clear hcz50_2
     try clear hcz9_0
     try clear hcz9_1
     try clear hcz9_2
     try clear hfz10_0
     try clear hfz10_1
     try clear hfz10_2
     try clear hfz10_3
     try clear hfz10_4
     try clear hfz15_0
     try clear hfz15_1
     try clear hfz15_2
     try clear hfz22_0
     try clear hfz22_1
     try clear hfz22_2
     try clear hfz26_0
     try clear hfz26_1
     try clear hfz26_2
     try clear hfz30_0
     try clear hfz30_1
     try clear hfz30_2
     try clear hfz33_0
     try clear hfz33_1
     try clear hfz33_2
     try clear hfz35_0
     try clear hfz35_1
     try clear hfz35_2
     try clear hfz35_3
     try clear hfz35_4
     try clear hfz44_0
     try clear hfz44_1
     try clear hfz44_2
     try clear hfz45_0
     try clear hfz45_1
     try clear hfz45_2
     try clear hfz45_3
     try clear hfz45_4
     try clear hfz50_0
     try clear hfz50_1
     try clear hfz50_2
     try clear hfz9_0
     try clear hfz9_1
     try clear hfz9_2
     try clear p1
     try clear p13
     try clear p16
     try clear p17
     try clear p2
     try clear p20
     try clear p24
     try clear p28
     try clear p42
     try clear p48
     try clear p51
     try clear p52
     try clear p6
     try clear p7
     try clear q1
     try clear q13
     try clear q16
     try clear q17
     try clear q20
     try clear q24
     try clear q28
     try clear q42
     try clear q48
     try clear q51
     try clear q52
     try clear q7
     obtain ⟨x6_1, x102000_1, x102001_1, x102002_1, rfl, HA, HK1, BK101, BK102, HB⟩ := hrel
     cases gk with
     | zero => exact absurd HA.out (by simp [prec_end.l0])
     | succ k1 =>
      have H := HA.out
      clear HA
      simp only [prec_end.l0] at H
      by_cases c53 : x6_1 < 3
      ·rw [if_pos c53] at H
       have c53b0 : decide (x6_1 < 3) = true := decide_eq_true c53
       clear c53
       by_cases c54 : x6_1 = 0
       ·rw [if_pos c54] at H
        have c54b0 : (x6_1 == 0) = true := beq_iff_eq.mpr c54
        have c54b1 : (x6_1 != 0) = false := bne_eq_false_iff_eq.mpr c54
        clear c54
        have H' := Aside0.mk H
        clear H
        have ix55 : (x6_1 : Int) = 0 := (by first | (with_reducible assumption) | assumption | exact eq_of_beq bA | omega)
        have p55 : (0 ≤ (x6_1 : Int)) = True := eq_true (by omega)
        have q55 : ((x6_1 : Int) < 3) = True := eq_true (by omega)
        have t55 : (x6_1 : Int).toNat = 0 := (by omega)
        clear ix55
        have hnb56 := NB101_102.out
        have hnc56 := NB102_101.out
        have hcz57_0 : wr.cell? ⟨gb101, 0, none⟩ = some (.int .u64 x102000_1) := (blk_cell BK101.out 0).trans rfl
        have hcz57_1 : wr.cell? ⟨gb101, 1, none⟩ = some (.int .u64 x102001_1) := (blk_cell BK101.out 1).trans rfl
        have hcz57_2 : wr.cell? ⟨gb101, 2, none⟩ = some (.int .u64 x102002_1) := (blk_cell BK101.out 2).trans rfl
        have hfz57_0 := blk_frozen BK101.out 0
        have hfz57_1 := blk_frozen BK101.out 1
        have hfz57_2 := blk_frozen BK101.out 2
        go_wp2
        go_roundg k1
        case measure => have := HK1.out; omega
        case rel => exact ⟨(wrap64 (x6_1 + 1)), (0), (x102001_1), (x102002_1), bS, H', ⟨by have := HK1.out; omega⟩, ⟨by (with_reducible repeat (first | refine blk_drewN ?_ _ | refine blk_drew ?_ | refine blk_alloc ?_ _)); refine blk_put (cs := #[.int .u64 x102000_1, .int .u64 x102001_1, .int .u64 x102002_1]) ?_ 0 _ rfl; (with_reducible repeat (first | refine blk_drewN ?_ _ | refine blk_drew ?_ | refine blk_alloc ?_ _)); exact BK101.out⟩, ⟨aKf BK102⟩, ⟨bB⟩⟩
       ·rw [if_neg c54] at H
        have c54b0 : (x6_1 == 0) = false := beq_eq_false_iff_ne.mpr c54
        have c54b1 : (x6_1 != 0) = true := bne_iff_ne.mpr c54
        by_cases c58 : x6_1 = 1
        ·rw [if_pos c58] at H
         have c58b0 : (x6_1 == 1) = true := beq_iff_eq.mpr c58
         have c58b1 : (x6_1 != 1) = false := bne_eq_false_iff_eq.mpr c58
         clear c58
         have H' := Aside0.mk H
         clear H
         have ix59 : (x6_1 : Int) = 1 := (by first | (with_reducible assumption) | assumption | exact eq_of_beq bA | omega)
         have p59 : (0 ≤ (x6_1 : Int)) = True := eq_true (by omega)
         have q59 : ((x6_1 : Int) < 3) = True := eq_true (by omega)
         have t59 : (x6_1 : Int).toNat = 1 := (by omega)
         clear ix59
         have hnb60 := NB101_102.out
         have hnc60 := NB102_101.out
         have hcz61_0 : wr.cell? ⟨gb101, 0, none⟩ = some (.int .u64 x102000_1) := (blk_cell BK101.out 0).trans rfl
         have hcz61_1 : wr.cell? ⟨gb101, 1, none⟩ = some (.int .u64 x102001_1) := (blk_cell BK101.out 1).trans rfl
         have hcz61_2 : wr.cell? ⟨gb101, 2, none⟩ = some (.int .u64 x102002_1) := (blk_cell BK101.out 2).trans rfl
         have hfz61_0 := blk_frozen BK101.out 0
         have hfz61_1 := blk_frozen BK101.out 1
         have hfz61_2 := blk_frozen BK101.out 2
         go_wp2
         go_roundg k1
         case measure => have := HK1.out; omega
         case rel => exact ⟨(wrap64 (x6_1 + 1)), (x102000_1), (0), (x102002_1), bS, H', ⟨by have := HK1.out; omega⟩, ⟨by (with_reducible repeat (first | refine blk_drewN ?_ _ | refine blk_drew ?_ | refine blk_alloc ?_ _)); refine blk_put (cs := #[.int .u64 x102000_1, .int .u64 x102001_1, .int .u64 x102002_1]) ?_ 1 _ rfl; (with_reducible repeat (first | refine blk_drewN ?_ _ | refine blk_drew ?_ | refine blk_alloc ?_ _)); exact BK101.out⟩, ⟨aKf BK102⟩, ⟨bB⟩⟩
        ·rw [if_neg c58] at H
         have c58b0 : (x6_1 == 1) = false := beq_eq_false_iff_ne.mpr c58
         have c58b1 : (x6_1 != 1) = true := bne_iff_ne.mpr c58
         by_cases c62 : x6_1 = 2
         ·rw [if_pos c62] at H
          have c62b0 : (x6_1 == 2) = true := beq_iff_eq.mpr c62
          have c62b1 : (x6_1 != 2) = false := bne_eq_false_iff_eq.mpr c62
          clear c62
          have H' := Aside0.mk H
          clear H
          have ix63 : (x6_1 : Int) = 2 := (by first | (with_reducible assumption) | assumption | exact eq_of_beq bA | omega)
          have p63 : (0 ≤ (x6_1 : Int)) = True := eq_true (by omega)
          have q63 : ((x6_1 : Int) < 3) = True := eq_true (by omega)
          have t63 : (x6_1 : Int).toNat = 2 := (by omega)
          clear ix63
          have hnb64 := NB101_102.out
          have hnc64 := NB102_101.out
          have hcz65_0 : wr.cell? ⟨gb101, 0, none⟩ = some (.int .u64 x102000_1) := (blk_cell BK101.out 0).trans rfl
          have hcz65_1 : wr.cell? ⟨gb101, 1, none⟩ = some (.int .u64 x102001_1) := (blk_cell BK101.out 1).trans rfl
          have hcz65_2 : wr.cell? ⟨gb101, 2, none⟩ = some (.int .u64 x102002_1) := (blk_cell BK101.out 2).trans rfl
          have hfz65_0 := blk_frozen BK101.out 0
          have hfz65_1 := blk_frozen BK101.out 1
          have hfz65_2 := blk_frozen BK101.out 2
          go_wp2
          go_roundg k1
          case measure => have := HK1.out; omega
          case rel => exact ⟨(wrap64 (x6_1 + 1)), (x102000_1), (x102001_1), (0), bS, H', ⟨by have := HK1.out; omega⟩, ⟨by (with_reducible repeat (first | refine blk_drewN ?_ _ | refine blk_drew ?_ | refine blk_alloc ?_ _)); refine blk_put (cs := #[.int .u64 x102000_1, .int .u64 x102001_1, .int .u64 x102002_1]) ?_ 2 _ rfl; (with_reducible repeat (first | refine blk_drewN ?_ _ | refine blk_drew ?_ | refine blk_alloc ?_ _)); exact BK101.out⟩, ⟨aKf BK102⟩, ⟨bB⟩⟩
         ·rw [if_neg c62] at H
          exact absurd H (by simp)
      ·rw [if_neg c53] at H
       have c53b0 : decide (x6_1 < 3) = false := decide_eq_false c53
       clear c53
       replace H := Option.bind_eq_some_iff.mp H
       obtain ⟨⟨t103, t104, t105, t106, t109⟩, A660, H⟩ := H
       replace H : (some (t103, t104, t105, t106, t109, true)) = some (r1, r2, r3, r4, r5, r6) := H
       have A66 := Aside0.mk A660
       clear A660
       simp only [Option.some.injEq, Prod.mk.injEq] at H
       obtain ⟨rfl, rfl, rfl, rfl, rfl, rfl⟩ := H
       have hnb67 := NB101_102.out
       have hnc67 := NB102_101.out
       have hcz68_0 : wr.cell? ⟨gb101, 0, none⟩ = some (.int .u64 x102000_1) := (blk_cell BK101.out 0).trans rfl
       have hcz68_1 : wr.cell? ⟨gb101, 1, none⟩ = some (.int .u64 x102001_1) := (blk_cell BK101.out 1).trans rfl
       have hcz68_2 : wr.cell? ⟨gb101, 2, none⟩ = some (.int .u64 x102002_1) := (blk_cell BK101.out 2).trans rfl
       have hfz68_0 := blk_frozen BK101.out 0
       have hfz68_1 := blk_frozen BK101.out 1
       have hfz68_2 := blk_frozen BK101.out 2
       go_wp2_with (first | ((with_reducible refine gate_callee (f := 28) rfl ?_); refine goesL_ (some 31) rfl rfl Tryd.func28 (by kernel_rfl) rfl #[.int .u64 x102000_1, .int .u64 x102001_1, .int .u64 x102002_1] rfl bM ?_; (with_reducible refine (prec_First.calls x102000_1 x102001_1 x102002_1 t103 t104 t105 t106 t109 _ A66.out).mono ?_); rintro e w69 ⟨v107, v110, rfl, ho0, ho1, hb⟩; refine ⟨_, rfl, ?_⟩; have HO108 := aL ho0 HB; have HO111 := aL ho1 HB; replace BK101 := aK BK101 hb; replace BK102 := aK BK102 hb; replace HB := aB HB hb; (try clear hb); (try clear hb2); (try clear hk); (try clear hi); (try clear ho0); (try clear ho1); have hcz70_0 : w69.cell? ⟨gb102, 0, none⟩ = some (.int .u64 0) := (blk_cell BK102.out 0).trans rfl; have hcz70_1 : w69.cell? ⟨gb102, 1, none⟩ = some (.int .u64 0) := (blk_cell BK102.out 1).trans rfl; have hcz70_2 : w69.cell? ⟨gb102, 2, none⟩ = some (.int .u64 0) := (blk_cell BK102.out 2).trans rfl; have hcz70_3 : w69.cell? ⟨gb102, 3, none⟩ = some (.slice none 0 0) := (blk_cell BK102.out 3).trans rfl; have hcz70_4 : w69.cell? ⟨gb102, 4, none⟩ = some (.slice none 0 0) := (blk_cell BK102.out 4).trans rfl; have hfz70_0 := blk_frozen BK102.out 0; have hfz70_1 := blk_frozen BK102.out 1; have hfz70_2 := blk_frozen BK102.out 2; have hfz70_3 := blk_frozen BK102.out 3; have hfz70_4 := blk_frozen BK102.out 4; obtain ⟨Ao71, co71, eo71⟩ := Kd.R_slice HO108.out; subst eo71; obtain ⟨Ao72, co72, eo72⟩ := Kd.R_slice HO111.out; subst eo72))
       refine bodyPost_ret (results_ct rfl _ _ gb102 40 #[.int .u64 t103, .int .u64 t104, .int .u64 t105, .slice Ao71 t106.length co71, .slice Ao72 t109.length co72] (0, 0) _ rfl (by (with_reducible repeat (first | refine blk_drewN ?_ _ | refine blk_drew ?_ | refine blk_alloc ?_ _)); refine blk_put (cs := #[.int .u64 t103, .int .u64 t104, .int .u64 t105, .slice Ao71 t106.length co71, .slice none 0 0]) ?_ 4 _ rfl; (with_reducible repeat (first | refine blk_drewN ?_ _ | refine blk_drew ?_ | refine blk_alloc ?_ _)); refine blk_put (cs := #[.int .u64 t103, .int .u64 t104, .int .u64 t105, .slice none 0 0, .slice none 0 0]) ?_ 3 _ rfl; (with_reducible repeat (first | refine blk_drewN ?_ _ | refine blk_drew ?_ | refine blk_alloc ?_ _)); refine blk_put (cs := #[.int .u64 t103, .int .u64 t104, .int .u64 0, .slice none 0 0, .slice none 0 0]) ?_ 2 _ rfl; (with_reducible repeat (first | refine blk_drewN ?_ _ | refine blk_drew ?_ | refine blk_alloc ?_ _)); refine blk_put (cs := #[.int .u64 t103, .int .u64 0, .int .u64 0, .slice none 0 0, .slice none 0 0]) ?_ 1 _ rfl; (with_reducible repeat (first | refine blk_drewN ?_ _ | refine blk_drew ?_ | refine blk_alloc ?_ _)); refine blk_put (cs := #[.int .u64 0, .int .u64 0, .int .u64 0, .slice none 0 0, .slice none 0 0]) ?_ 0 _ rfl; (with_reducible repeat (first | refine blk_drewN ?_ _ | refine blk_drew ?_ | refine blk_alloc ?_ _)); exact BK102.out) Tryd.underlying40 rfl (by kernel_rfl)) rfl ?_
       exact ⟨_, _, by first | rfl | (simp [errW_none, errW_some] <;> rfl) | (simp [*, errW_none, errW_some] <;> rfl), by (with_reducible repeat (first | apply Kd.R_alloc | apply Kd.R_drewN | apply Kd.R_drew)); exact Kd.R_mono (aG HO108 BK102) (fun _ hk => hk.1), by (with_reducible repeat (first | apply Kd.R_alloc | apply Kd.R_drewN | apply Kd.R_drew)); exact Kd.R_mono (aG HO111 BK102) (fun _ hk => hk.1), bB⟩
  ·rw [if_neg c38] at H
   have c38b0 : (a1 == 1) = false := beq_eq_false_iff_ne.mpr c38
   have c38b1 : (a1 != 1) = true := bne_iff_ne.mpr c38
   by_cases c73 : a1 = 2
   ·rw [if_pos c73] at H
    have c73b0 : (a1 == 2) = true := beq_iff_eq.mpr c73
    have c73b1 : (a1 != 2) = false := bne_eq_false_iff_eq.mpr c73
    clear c73
    by_cases c74 : a0_2 ≥ 9223372036854775807
    ·rw [if_pos c74] at H
     have c74b0 : decide (9223372036854775807 ≤ a0_2) = true := decide_eq_true c74
     clear c74
     simp only [Option.some.injEq, Prod.mk.injEq] at H
     obtain ⟨rfl, rfl, rfl, rfl, rfl, rfl⟩ := H
     go_enter Tryd.func57, Tryd.ntmps57
     go_wp2_with (first | ((with_reducible refine gate_dst (N := 2) rfl ?_); refine box_event ?hg (N := 2) ?hd (cs := #[.int .u64 a0_0, .int .u64 a0_1, .int .u64 a0_2]) (t := 67) ?hr ?_; (case hd => rfl); (case hg => rfl); (case hr => first | (go_simp; done) | (go_simp; rfl)); intro gb101 hg w75 hbox hb; have BK101 := Aside0.mk hbox; have GW101 := Aside0.mk ((by rw [hg]; exact (below_size bB) : w.heap.size ≤ gb101)); have GE101 := Aside0.mk ((by rw [hg]; exact (below_size bB) : w.heap.size ≤ gb101)); replace HB := aB HB hb; clear hb hbox hg) | ((with_reducible refine gate_dst (N := 4) rfl ?_); refine box_event ?hg (N := 4) ?hd (cs := #[.int .u64 0, .int .u64 0, .int .u64 0, .slice none 0 0, .slice none 0 0]) (t := 40) ?hr ?_; (case hd => rfl); (case hg => rfl); (case hr => first | (go_simp; done) | (go_simp; rfl)); intro gb102 hg w76 hbox hb; have BK102 := Aside0.mk hbox; have GW102 := Aside0.mk ((by rw [hg]; exact (below_size bB) : w.heap.size ≤ gb102)); have GE102 := Aside0.mk ((by rw [hg]; exact (below_size bB) : w.heap.size ≤ gb102)); replace HB := aB HB hb; have NB101_102 := Aside0.mk ((by rw [hg]; exact Nat.ne_of_lt (blk_lt (g := gb101) (o := .cells #[.int .u64 a0_0, .int .u64 a0_1, .int .u64 a0_2] 67 (0, 0)) (aKw BK101)) : gb101 ≠ gb102)); have NB102_101 := Aside0.mk ((by rw [hg]; exact Nat.ne_of_gt (blk_lt (g := gb101) (o := .cells #[.int .u64 a0_0, .int .u64 a0_1, .int .u64 a0_2] 67 (0, 0)) (aKw BK101)) : gb102 ≠ gb101)); replace BK101 := aK BK101 hb; clear hb hbox hg; have ix77 : (a1 : Int) = 2 := (by first | (with_reducible assumption) | assumption | exact eq_of_beq bA | omega); have p77 : (0 ≤ (a1 : Int)) = True := eq_true (by omega); have q77 : ((a1 : Int) < 3) = True := eq_true (by omega); have t77 : (a1 : Int).toNat = 2 := (by omega); clear ix77; have hnb78 := NB101_102.out; have hnc78 := NB102_101.out; have hcz79_0 : w76.cell? ⟨gb101, 0, none⟩ = some (.int .u64 a0_0) := (blk_cell BK101.out 0).trans rfl; have hcz79_1 : w76.cell? ⟨gb101, 1, none⟩ = some (.int .u64 a0_1) := (blk_cell BK101.out 1).trans rfl; have hcz79_2 : w76.cell? ⟨gb101, 2, none⟩ = some (.int .u64 a0_2) := (blk_cell BK101.out 2).trans rfl; have hfz79_0 := blk_frozen BK101.out 0; have hfz79_1 := blk_frozen BK101.out 1; have hfz79_2 := blk_frozen BK101.out 2; have hcz80_0 : w76.cell? ⟨gb102, 0, none⟩ = some (.int .u64 0) := (blk_cell BK102.out 0).trans rfl; have hcz80_1 : w76.cell? ⟨gb102, 1, none⟩ = some (.int .u64 0) := (blk_cell BK102.out 1).trans rfl; have hcz80_2 : w76.cell? ⟨gb102, 2, none⟩ = some (.int .u64 0) := (blk_cell BK102.out 2).trans rfl; have hcz80_3 : w76.cell? ⟨gb102, 3, none⟩ = some (.slice none 0 0) := (blk_cell BK102.out 3).trans rfl; have hcz80_4 : w76.cell? ⟨gb102, 4, none⟩ = some (.slice none 0 0) := (blk_cell BK102.out 4).trans rfl; have hfz80_0 := blk_frozen BK102.out 0; have hfz80_1 := blk_frozen BK102.out 1; have hfz80_2 := blk_frozen BK102.out 2; have hfz80_3 := blk_frozen BK102.out 3; have hfz80_4 := blk_frozen BK102.out 4))
     refine bodyPost_ret (results_ct rfl _ _ gb102 40 #[.int .u64 0, .int .u64 0, .int .u64 0, .slice none 0 0, .slice none 0 0] (0, 0) _ rfl (by (with_reducible repeat (first | refine blk_drewN ?_ _ | refine blk_drew ?_ | refine blk_alloc ?_ _)); refine blk_put (cs := #[.int .u64 0, .int .u64 0, .int .u64 0, .slice none 0 0, .slice none 0 0]) ?_ 4 _ rfl; (with_reducible repeat (first | refine blk_drewN ?_ _ | refine blk_drew ?_ | refine blk_alloc ?_ _)); refine blk_put (cs := #[.int .u64 0, .int .u64 0, .int .u64 0, .slice none 0 0, .slice none 0 0]) ?_ 3 _ rfl; (with_reducible repeat (first | refine blk_drewN ?_ _ | refine blk_drew ?_ | refine blk_alloc ?_ _)); refine blk_put (cs := #[.int .u64 0, .int .u64 0, .int .u64 0, .slice none 0 0, .slice none 0 0]) ?_ 2 _ rfl; (with_reducible repeat (first | refine blk_drewN ?_ _ | refine blk_drew ?_ | refine blk_alloc ?_ _)); refine blk_put (cs := #[.int .u64 0, .int .u64 0, .int .u64 0, .slice none 0 0, .slice none 0 0]) ?_ 1 _ rfl; (with_reducible repeat (first | refine blk_drewN ?_ _ | refine blk_drew ?_ | refine blk_alloc ?_ _)); refine blk_put (cs := #[.int .u64 0, .int .u64 0, .int .u64 0, .slice none 0 0, .slice none 0 0]) ?_ 0 _ rfl; (with_reducible repeat (first | refine blk_drewN ?_ _ | refine blk_drew ?_ | refine blk_alloc ?_ _)); exact BK102.out) Tryd.underlying40 rfl (by kernel_rfl)) rfl ?_
     exact ⟨_, _, by first | rfl | (simp [errW_none, errW_some] <;> rfl) | (simp [*, errW_none, errW_some] <;> rfl), by first | exact Kd.R_nil _ _ _ _ _ | exact Kd.N_nil _ _ _ _ _ | exact Kd.V_nil _ _ _ _ _ | exact Kd.Q_nil _ _ _ _ _ | exact Kd.S_nil _ _ _ _ _, by first | exact Kd.R_nil _ _ _ _ _ | exact Kd.N_nil _ _ _ _ _ | exact Kd.V_nil _ _ _ _ _ | exact Kd.Q_nil _ _ _ _ _ | exact Kd.S_nil _ _ _ _ _, bB⟩
    ·rw [if_neg c74] at H
     have c74b0 : decide (9223372036854775807 ≤ a0_2) = false := decide_eq_false c74
     clear c74
     have H' := Aside0.mk H
     clear H
     go_enter Tryd.func57, Tryd.ntmps57
     go_wp2_with (first | ((with_reducible refine gate_dst (N := 2) rfl ?_); refine box_event ?hg (N := 2) ?hd (cs := #[.int .u64 a0_0, .int .u64 a0_1, .int .u64 a0_2]) (t := 67) ?hr ?_; (case hd => rfl); (case hg => rfl); (case hr => first | (go_simp; done) | (go_simp; rfl)); intro gb101 hg w81 hbox hb; have BK101 := Aside0.mk hbox; have GW101 := Aside0.mk ((by rw [hg]; exact (below_size bB) : w.heap.size ≤ gb101)); have GE101 := Aside0.mk ((by rw [hg]; exact (below_size bB) : w.heap.size ≤ gb101)); replace HB := aB HB hb; clear hb hbox hg) | ((with_reducible refine gate_dst (N := 4) rfl ?_); refine box_event ?hg (N := 4) ?hd (cs := #[.int .u64 0, .int .u64 0, .int .u64 0, .slice none 0 0, .slice none 0 0]) (t := 40) ?hr ?_; (case hd => rfl); (case hg => rfl); (case hr => first | (go_simp; done) | (go_simp; rfl)); intro gb102 hg w82 hbox hb; have BK102 := Aside0.mk hbox; have GW102 := Aside0.mk ((by rw [hg]; exact (below_size bB) : w.heap.size ≤ gb102)); have GE102 := Aside0.mk ((by rw [hg]; exact (below_size bB) : w.heap.size ≤ gb102)); replace HB := aB HB hb; have NB101_102 := Aside0.mk ((by rw [hg]; exact Nat.ne_of_lt (blk_lt (g := gb101) (o := .cells #[.int .u64 a0_0, .int .u64 a0_1, .int .u64 a0_2] 67 (0, 0)) (aKw BK101)) : gb101 ≠ gb102)); have NB102_101 := Aside0.mk ((by rw [hg]; exact Nat.ne_of_gt (blk_lt (g := gb101) (o := .cells #[.int .u64 a0_0, .int .u64 a0_1, .int .u64 a0_2] 67 (0, 0)) (aKw BK101)) : gb102 ≠ gb101)); replace BK101 := aK BK101 hb; clear hb hbox hg; have ix83 : (a1 : Int) = 2 := (by first | (with_reducible assumption) | assumption | exact eq_of_beq bA | omega); have p83 : (0 ≤ (a1 : Int)) = True := eq_true (by omega); have q83 : ((a1 : Int) < 3) = True := eq_true (by omega); have t83 : (a1 : Int).toNat = 2 := (by omega); clear ix83; have hnb84 := NB101_102.out; have hnc84 := NB102_101.out; have hcz85_0 : w82.cell? ⟨gb101, 0, none⟩ = some (.int .u64 a0_0) := (blk_cell BK101.out 0).trans rfl; have hcz85_1 : w82.cell? ⟨gb101, 1, none⟩ = some (.int .u64 a0_1) := (blk_cell BK101.out 1).trans rfl; have hcz85_2 : w82.cell? ⟨gb101, 2, none⟩ = some (.int .u64 a0_2) := (blk_cell BK101.out 2).trans rfl; have hfz85_0 := blk_frozen BK101.out 0; have hfz85_1 := blk_frozen BK101.out 1; have hfz85_2 := blk_frozen BK101.out 2; have ix86 : (a1 : Int) = 2 := (by first | (with_reducible assumption) | assumption | exact eq_of_beq bA | omega); have p86 : (0 ≤ (a1 : Int)) = True := eq_true (by omega); have q86 : ((a1 : Int) < 3) = True := eq_true (by omega); have t86 : (a1 : Int).toNat = 2 := (by omega); clear ix86; have ix87 : (a1 : Int) = 2 := (by first | (with_reducible assumption) | assumption | exact eq_of_beq bA | omega); have p87 : (0 ≤ (a1 : Int)) = True := eq_true (by omega); have q87 : ((a1 : Int) < 3) = True := eq_true (by omega); have t87 : (a1 : Int).toNat = 2 := (by omega); clear ix87))
     go_loopg [6] k (fun kq v6 w' => ∃ (x6_1 : Int) (x102000_1 : Int) (x102001_1 : Int) (x102002_1 : Int), v6 = .int .i64 x6_1 ∧ Aside0 (prec_end.l0 kq x6_1 x102000_1 x102001_1 x102002_1 = some (r1, r2, r3, r4, r5, r6)) ∧ Aside0 (kq ≤ k) ∧ Aside0 (w'.heap[gb101]? = some (.cells #[.int .u64 x102000_1, .int .u64 x102001_1, .int .u64 x102002_1] 67 (0, 0))) ∧ Aside0 (w'.heap[gb102]? = some (.cells #[.int .u64 0, .int .u64 0, .int .u64 0, (.slice none 0 0), (.slice none 0 0)] 40 (0, 0))) ∧ Aside0 (Below w.heap.size w w'))
     case atStart => exact ⟨(wrap64 (a1 + 1)), (a0_0), (a0_1), (IntKind.u64.wrap (a0_2 + 1)), bS, H', ⟨Nat.le_refl _⟩, ⟨by (with_reducible repeat (first | refine blk_drewN ?_ _ | refine blk_drew ?_ | refine blk_alloc ?_ _)); refine blk_put (cs := #[.int .u64 a0_0, .int .u64 a0_1, .int .u64 a0_2]) ?_ 2 _ rfl; (with_reducible repeat (first | refine blk_drewN ?_ _ | refine blk_drew ?_ | refine blk_alloc ?_ _)); exact BK101.out⟩, ⟨aKf BK102⟩, ⟨bB⟩⟩
     case round =>
      clear H'
      try clear c1
      try clear p1
      try clear q1
      try clear c2
      try clear p2
      try clear q2
      try clear c3
      try clear c3b0
      try clear c3b1
      try clear c4
      try clear c4b0
      try clear p4
      try clear q4
      try clear c5
      try clear p5
      try clear q5
      try clear c6
      try clear p6
      try clear q6
      try clear c7
      try clear p7
      try clear q7
      try clear c8
      try clear p8
      try clear q8
      try clear p13
      try clear q13
      try clear c14
      try clear p16
      try clear q16
      try clear p17
      try clear q17
      try clear c18
      try clear c18b0
      try clear c19
      try clear c19b0
      try clear c19b1
      try clear p20
      try clear q20
      try clear c21
      try clear c23
      try clear c23b0
      try clear c23b1
      try clear p24
      try clear q24
      try clear c25
      try clear c27
      try clear c27b0
      try clear c27b1
      try clear c28
      try clear p28
      try clear q28
      try clear c29
      try clear c32
      try clear c38
      try clear c38b0
      try clear c38b1
      try clear c39
      try clear c39b0
      try clear p42
      try clear q42
      try clear c43
      try clear p48
      try clear q48
      try clear c49
      try clear p51
      try clear q51
      try clear p52
      try clear q52
      try clear c53
      try clear c53b0
      try clear c54
      try clear c54b0
      try clear c54b1
      try clear p55
      try clear q55
      try clear c56
      try clear c57
      try clear c58
      try clear c58b0
      try clear c58b1
      try clear p59
      try clear q59
      try clear c60
      try clear c62
      try clear c62b0
      try clear c62b1
      try clear p63
      try clear q63
      try clear c64
      try clear p64
      try clear c67
      try clear c73
      try clear c73b0
      try clear c73b1
      try clear c74
      try clear c74b0
      try clear p77
      try clear q77
      try clear c78
      try clear p83
      try clear q83
      try clear c84
      try clear p86
      try clear q86
      try clear p87
      try clear q87
      try clear hcz10_0
      try clear hcz10_1
      try clear hcz10_2
      try clear hcz10_3
      try clear hcz10_4
      try clear hcz15_0
      try clear hcz15_1
      try clear hcz15_2
      try clear hcz22_0
      try clear hcz22_1
      try clear hcz22_2
      try clear hcz26_0
      try clear hcz26_1
      try clear hcz26_2
      try clear hcz30_0
      try clear hcz30_1
      try clear hcz30_2
      try clear hcz33_0
      try clear hcz33_1
      try clear hcz33_2
      try clear hcz35_0
      try clear hcz35_1
      try clear hcz35_2
      try clear hcz35_3
      try clear hcz35_4
      try clear hcz44_0
      try clear hcz44_1
      try clear hcz44_2
      try clear hcz45_0
      try clear hcz45_1
      try clear hcz45_2
      try clear hcz45_3
      try clear hcz45_4
      try clear hcz50_0
      try clear hcz50_1
      try clear hcz50_2
      try clear hcz57_0
      try clear hcz57_1
      try clear hcz57_2
      try clear hcz61_0
      try clear hcz61_1
      try clear hcz61_2
      try clear hcz65_0
      try clear hcz65_1
      try clear hcz65_2
      try clear hcz68_0
      try clear hcz68_1
      try clear hcz68_2
      try clear hcz70_0
      try clear hcz70_1
      try clear hcz70_2
      try clear hcz70_3
      try clear hcz70_4
      try clear hcz79_0
      try clear hcz79_1
      try clear hcz79_2
      try clear hcz80_0
      try clear hcz80_1
      try clear hcz80_2
      try clear hcz80_3
      try clear hcz80_4
      try clear hcz85_0
      try clear hcz85_1
      try clear hcz85_2
      try clear hcz9_0
      try clear hcz9_1
      try clear hcz9_2
      try clear hfz10_0
      try clear hfz10_1
      try clear hfz10_2
      try clear hfz10_3
      try clear hfz10_4
      try clear hfz15_0
      try clear hfz15_1
      try clear hfz15_2
      try clear hfz22_0
      try clear hfz22_1
      try clear hfz22_2
      try clear hfz26_0
      try clear hfz26_1
      try clear hfz26_2
      try clear hfz30_0
      try clear hfz30_1
      try clear hfz30_2
      try clear hfz33_0
      try clear hfz33_1
      try clear hfz33_2
      try clear hfz35_0
      try clear hfz35_1
      try clear hfz35_2
      try clear hfz35_3
      try clear hfz35_4
      try clear hfz44_0
      try clear hfz44_1
      try clear hfz44_2
      try clear hfz45_0
      try clear hfz45_1
      try clear hfz45_2
      try clear hfz45_3
      try clear hfz45_4
      try clear hfz50_0
      try clear hfz50_1
      try clear hfz50_2
      try clear hfz57_0
      try clear hfz57_1
      try clear hfz57_2
      try clear hfz61_0
      try clear hfz61_1
      try clear hfz61_2
      try clear hfz65_0
      try clear hfz65_1
      try clear hfz65_2
      try clear hfz68_0
      try clear hfz68_1
      try clear hfz68_2
      try clear hfz70_0
      try clear hfz70_1
      try clear hfz70_2
      try clear hfz70_3
      try clear hfz70_4
      try clear hfz79_0
      try clear hfz79_1
      try clear hfz79_2
      try clear hfz80_0
      try clear hfz80_1
      try clear hfz80_2
      try clear hfz80_3
      try clear hfz80_4
      try clear hfz85_0
      try clear hfz85_1
      try clear hfz85_2
      try clear hfz9_0
      try clear hfz9_1
      try clear hfz9_2
      try clear p1
      try clear p13
      try clear p16
      try clear p17
      try clear p2
      try clear p20
      try clear p24
      try clear p28
      try clear p4
      try clear p42
      try clear p48
      try clear p5
      try clear p51
      try clear p52
      try clear p55
      try clear p59
      try clear p6
      try clear p63
      try clear p7
      try clear p77
      try clear p83
      try clear p86
      try clear p87
      try clear q1
      try clear q13
      try clear q16
      try clear q17
      try clear q2
      try clear q20
      try clear q24
      try clear q28
      try clear q4
      try clear q42
      try clear q48
      try clear q5
      try clear q51
      try clear q52
      try clear q55
      try clear q59
      try clear q63
      try clear q7
      try clear q77
      try clear q83
      try clear q86
      try clear q87
      obtain ⟨x6_1, x102000_1, x102001_1, x102002_1, rfl, HA, HK1, BK101, BK102, HB⟩ := hrel
      cases gk with
      | zero => exact absurd HA.out (by simp [prec_end.l0])
      | succ k1 =>
       have H := HA.out
       clear HA
       simp only [prec_end.l0] at H
       by_cases c88 : x6_1 < 3
       ·rw [if_pos c88] at H
        have c88b0 : decide (x6_1 < 3) = true := decide_eq_true c88
        clear c88
        by_cases c89 : x6_1 = 0
        ·rw [if_pos c89] at H
         have c89b0 : (x6_1 == 0) = true := beq_iff_eq.mpr c89
         have c89b1 : (x6_1 != 0) = false := bne_eq_false_iff_eq.mpr c89
         clear c89
         have H' := Aside0.mk H
         clear H
         have ix90 : (x6_1 : Int) = 0 := (by first | (with_reducible assumption) | assumption | exact eq_of_beq bA | omega)
         have p90 : (0 ≤ (x6_1 : Int)) = True := eq_true (by omega)
         have q90 : ((x6_1 : Int) < 3) = True := eq_true (by omega)
         have t90 : (x6_1 : Int).toNat = 0 := (by omega)
         clear ix90
         have hnb91 := NB101_102.out
         have hnc91 := NB102_101.out
         have hcz92_0 : wr.cell? ⟨gb101, 0, none⟩ = some (.int .u64 x102000_1) := (blk_cell BK101.out 0).trans rfl
         have hcz92_1 : wr.cell? ⟨gb101, 1, none⟩ = some (.int .u64 x102001_1) := (blk_cell BK101.out 1).trans rfl
         have hcz92_2 : wr.cell? ⟨gb101, 2, none⟩ = some (.int .u64 x102002_1) := (blk_cell BK101.out 2).trans rfl
         have hfz92_0 := blk_frozen BK101.out 0
         have hfz92_1 := blk_frozen BK101.out 1
         have hfz92_2 := blk_frozen BK101.out 2
         go_wp2
         go_roundg k1
         case measure => have := HK1.out; omega
         case rel => exact ⟨(wrap64 (x6_1 + 1)), (0), (x102001_1), (x102002_1), bS, H', ⟨by have := HK1.out; omega⟩, ⟨by (with_reducible repeat (first | refine blk_drewN ?_ _ | refine blk_drew ?_ | refine blk_alloc ?_ _)); refine blk_put (cs := #[.int .u64 x102000_1, .int .u64 x102001_1, .int .u64 x102002_1]) ?_ 0 _ rfl; (with_reducible repeat (first | refine blk_drewN ?_ _ | refine blk_drew ?_ | refine blk_alloc ?_ _)); exact BK101.out⟩, ⟨aKf BK102⟩, ⟨bB⟩⟩
        ·rw [if_neg c89] at H
         have c89b0 : (x6_1 == 0) = false := beq_eq_false_iff_ne.mpr c89
         have c89b1 : (x6_1 != 0) = true := bne_iff_ne.mpr c89
         by_cases c93 : x6_1 = 1
         ·rw [if_pos c93] at H
          have c93b0 : (x6_1 == 1) = true := beq_iff_eq.mpr c93
          have c93b1 : (x6_1 != 1) = false := bne_eq_false_iff_eq.mpr c93
          clear c93
          have H' := Aside0.mk H
          clear H
          have ix94 : (x6_1 : Int) = 1 := (by first | (with_reducible assumption) | assumption | exact eq_of_beq bA | omega)
          have p94 : (0 ≤ (x6_1 : Int)) = True := eq_true (by omega)
          have q94 : ((x6_1 : Int) < 3) = True := eq_true (by omega)
          have t94 : (x6_1 : Int).toNat = 1 := (by omega)
          clear ix94
          have hnb95 := NB101_102.out
          have hnc95 := NB102_101.out
          have hcz96_0 : wr.cell? ⟨gb101, 0, none⟩ = some (.int .u64 x102000_1) := (blk_cell BK101.out 0).trans rfl
          have hcz96_1 : wr.cell? ⟨gb101, 1, none⟩ = some (.int .u64 x102001_1) := (blk_cell BK101.out 1).trans rfl
          have hcz96_2 : wr.cell? ⟨gb101, 2, none⟩ = some (.int .u64 x102002_1) := (blk_cell BK101.out 2).trans rfl
          have hfz96_0 := blk_frozen BK101.out 0
          have hfz96_1 := blk_frozen BK101.out 1
          have hfz96_2 := blk_frozen BK101.out 2
          go_wp2
          go_roundg k1
          case measure => have := HK1.out; omega
          case rel => exact ⟨(wrap64 (x6_1 + 1)), (x102000_1), (0), (x102002_1), bS, H', ⟨by have := HK1.out; omega⟩, ⟨by (with_reducible repeat (first | refine blk_drewN ?_ _ | refine blk_drew ?_ | refine blk_alloc ?_ _)); refine blk_put (cs := #[.int .u64 x102000_1, .int .u64 x102001_1, .int .u64 x102002_1]) ?_ 1 _ rfl; (with_reducible repeat (first | refine blk_drewN ?_ _ | refine blk_drew ?_ | refine blk_alloc ?_ _)); exact BK101.out⟩, ⟨aKf BK102⟩, ⟨bB⟩⟩
         ·rw [if_neg c93] at H
          have c93b0 : (x6_1 == 1) = false := beq_eq_false_iff_ne.mpr c93
          have c93b1 : (x6_1 != 1) = true := bne_iff_ne.mpr c93
          by_cases c97 : x6_1 = 2
          ·rw [if_pos c97] at H
           have c97b0 : (x6_1 == 2) = true := beq_iff_eq.mpr c97
           have c97b1 : (x6_1 != 2) = false := bne_eq_false_iff_eq.mpr c97
           clear c97
           have H' := Aside0.mk H
           clear H
           have ix98 : (x6_1 : Int) = 2 := (by first | (with_reducible assumption) | assumption | exact eq_of_beq bA | omega)
           have p98 : (0 ≤ (x6_1 : Int)) = True := eq_true (by omega)
           have q98 : ((x6_1 : Int) < 3) = True := eq_true (by omega)
           have t98 : (x6_1 : Int).toNat = 2 := (by omega)
           clear ix98
           have hnb99 := NB101_102.out
           have hnc99 := NB102_101.out
           have hcz100_0 : wr.cell? ⟨gb101, 0, none⟩ = some (.int .u64 x102000_1) := (blk_cell BK101.out 0).trans rfl
           have hcz100_1 : wr.cell? ⟨gb101, 1, none⟩ = some (.int .u64 x102001_1) := (blk_cell BK101.out 1).trans rfl
           have hcz100_2 : wr.cell? ⟨gb101, 2, none⟩ = some (.int .u64 x102002_1) := (blk_cell BK101.out 2).trans rfl
           have hfz100_0 := blk_frozen BK101.out 0
           have hfz100_1 := blk_frozen BK101.out 1
           have hfz100_2 := blk_frozen BK101.out 2
           go_wp2
           go_roundg k1
           case measure => have := HK1.out; omega
           case rel => exact ⟨(wrap64 (x6_1 + 1)), (x102000_1), (x102001_1), (0), bS, H', ⟨by have := HK1.out; omega⟩, ⟨by (with_reducible repeat (first | refine blk_drewN ?_ _ | refine blk_drew ?_ | refine blk_alloc ?_ _)); refine blk_put (cs := #[.int .u64 x102000_1, .int .u64 x102001_1, .int .u64 x102002_1]) ?_ 2 _ rfl; (with_reducible repeat (first | refine blk_drewN ?_ _ | refine blk_drew ?_ | refine blk_alloc ?_ _)); exact BK101.out⟩, ⟨aKf BK102⟩, ⟨bB⟩⟩
          ·rw [if_neg c97] at H
           exact absurd H (by simp)
       ·rw [if_neg c88] at H
        have c88b0 : decide (x6_1 < 3) = false := decide_eq_false c88
        clear c88
        replace H := Option.bind_eq_some_iff.mp H
        obtain ⟨⟨t103, t104, t105, t106, t109⟩, A1010, H⟩ := H
        replace H : (some (t103, t104, t105, t106, t109, true)) = some (r1, r2, r3, r4, r5, r6) := H
        have A101 := Aside0.mk A1010
        clear A1010
        simp only [Option.some.injEq, Prod.mk.injEq] at H
        obtain ⟨rfl, rfl, rfl, rfl, rfl, rfl⟩ := H
        have hnb102 := NB101_102.out
        have hnc102 := NB102_101.out
        have hcz103_0 : wr.cell? ⟨gb101, 0, none⟩ = some (.int .u64 x102000_1) := (blk_cell BK101.out 0).trans rfl
        have hcz103_1 : wr.cell? ⟨gb101, 1, none⟩ = some (.int .u64 x102001_1) := (blk_cell BK101.out 1).trans rfl
        have hcz103_2 : wr.cell? ⟨gb101, 2, none⟩ = some (.int .u64 x102002_1) := (blk_cell BK101.out 2).trans rfl
        have hfz103_0 := blk_frozen BK101.out 0
        have hfz103_1 := blk_frozen BK101.out 1
        have hfz103_2 := blk_frozen BK101.out 2
        go_wp2_with (first | ((with_reducible refine gate_callee (f := 28) rfl ?_); refine goesL_ (some 31) rfl rfl Tryd.func28 (by kernel_rfl) rfl #[.int .u64 x102000_1, .int .u64 x102001_1, .int .u64 x102002_1] rfl bM ?_; (with_reducible refine (prec_First.calls x102000_1 x102001_1 x102002_1 t103 t104 t105 t106 t109 _ A101.out).mono ?_); rintro e w104 ⟨v107, v110, rfl, ho0, ho1, hb⟩; refine ⟨_, rfl, ?_⟩; have HO108 := aL ho0 HB; have HO111 := aL ho1 HB; replace BK101 := aK BK101 hb; replace BK102 := aK BK102 hb; replace HB := aB HB hb; (try clear hb); (try clear hb2); (try clear hk); (try clear hi); (try clear ho0); (try clear ho1); have hcz105_0 : w104.cell? ⟨gb102, 0, none⟩ = some (.int .u64 0) := (blk_cell BK102.out 0).trans rfl; have hcz105_1 : w104.cell? ⟨gb102, 1, none⟩ = some (.int .u64 0) := (blk_cell BK102.out 1).trans rfl; have hcz105_2 : w104.cell? ⟨gb102, 2, none⟩ = some (.int .u64 0) := (blk_cell BK102.out 2).trans rfl; have hcz105_3 : w104.cell? ⟨gb102, 3, none⟩ = some (.slice none 0 0) := (blk_cell BK102.out 3).trans rfl; have hcz105_4 : w104.cell? ⟨gb102, 4, none⟩ = some (.slice none 0 0) := (blk_cell BK102.out 4).trans rfl; have hfz105_0 := blk_frozen BK102.out 0; have hfz105_1 := blk_frozen BK102.out 1; have hfz105_2 := blk_frozen BK102.out 2; have hfz105_3 := blk_frozen BK102.out 3; have hfz105_4 := blk_frozen BK102.out 4; obtain ⟨Ao106, co106, eo106⟩ := Kd.R_slice HO108.out; subst eo106; obtain ⟨Ao107, co107, eo107⟩ := Kd.R_slice HO111.out; subst eo107))
        refine bodyPost_ret (results_ct rfl _ _ gb102 40 #[.int .u64 t103, .int .u64 t104, .int .u64 t105, .slice Ao106 t106.length co106, .slice Ao107 t109.length co107] (0, 0) _ rfl (by (with_reducible repeat (first | refine blk_drewN ?_ _ | refine blk_drew ?_ | refine blk_alloc ?_ _)); refine blk_put (cs := #[.int .u64 t103, .int .u64 t104, .int .u64 t105, .slice Ao106 t106.length co106, .slice none 0 0]) ?_ 4 _ rfl; (with_reducible repeat (first | refine blk_drewN ?_ _ | refine blk_drew ?_ | refine blk_alloc ?_ _)); refine blk_put (cs := #[.int .u64 t103, .int .u64 t104, .int .u64 t105, .slice none 0 0, .slice none 0 0]) ?_ 3 _ rfl; (with_reducible repeat (first | refine blk_drewN ?_ _ | refine blk_drew ?_ | refine blk_alloc ?_ _)); refine blk_put (cs := #[.int .u64 t103, .int .u64 t104, .int .u64 0, .slice none 0 0, .slice none 0 0]) ?_ 2 _ rfl; (with_reducible repeat (first | refine blk_drewN ?_ _ | refine blk_drew ?_ | refine blk_alloc ?_ _)); refine blk_put (cs := #[.int .u64 t103, .int .u64 0, .int .u64 0, .slice none 0 0, .slice none 0 0]) ?_ 1 _ rfl; (with_reducible repeat (first | refine blk_drewN ?_ _ | refine blk_drew ?_ | refine blk_alloc ?_ _)); refine blk_put (cs := #[.int .u64 0, .int .u64 0, .int .u64 0, .slice none 0 0, .slice none 0 0]) ?_ 0 _ rfl; (with_reducible repeat (first | refine blk_drewN ?_ _ | refine blk_drew ?_ | refine blk_alloc ?_ _)); exact BK102.out) Tryd.underlying40 rfl (by kernel_rfl)) rfl ?_
        exact ⟨_, _, by first | rfl | (simp [errW_none, errW_some] <;> rfl) | (simp [*, errW_none, errW_some] <;> rfl), by (with_reducible repeat (first | apply Kd.R_alloc | apply Kd.R_drewN | apply Kd.R_drew)); exact Kd.R_mono (aG HO108 BK102) (fun _ hk => hk.1), by (with_reducible repeat (first | apply Kd.R_alloc | apply Kd.R_drewN | apply Kd.R_drew)); exact Kd.R_mono (aG HO111 BK102) (fun _ hk => hk.1), bB⟩
   ·rw [if_neg c73] at H
    exact absurd H (by simp)

end Go.Proofs.YtildmfegfkiknaaDoor.X
