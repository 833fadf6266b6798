-- Written by a program of this session (wip/xp), out of the translation. Not trusted: Lean checks it.
import Derived.Test.YtildmfegfkiknaaDoorX0
import Derived.Test.YtildmfegfkiknaaDoorXn79
-- shrunk
namespace Go.Proofs.YtildmfegfkiknaaDoor.X
open Go.RowKit Go.Proofs.YtildmfegfkiknaaDoorW.PrintWords Go.Proofs.YtildmfegfkiknaaDoorW.PrintLast Go.Proofs.YtildmfegfkiknaaDoorW.PrintMore
attribute [local go_sem] Lab.str_gtr Lab.str_leq Lab.str_geq max2_int min2_int max_two min_two max_three min_three max_four min_four   -- for this text's walks alone
set_option linter.unusedVariables false
set_option linter.unusedSimpArgs false

/-! ### prec_cores: function 58 -/
def prec_cores.l0 : Nat → Int → Int → Int → Int → Int → Int → Int → Option (Int)
 | 0, _, _, _, _, _, _, _ => none
 | k + 1, x5, x102000, x102001, x102002, x103000, x103001, x103002 => if x5 = 0 then (if x102000 = x103000 then (prec_cores.l0 k (wrap64 (x5 + 1)) x102000 x102001 x102002 x103000 x103001 x103002) else ((cmp_Compare_uint64.f x102000 x103000).bind fun t103 => (some t103))) else (if x5 = 1 then (if x102001 = x103001 then (prec_cores.l0 k (wrap64 (x5 + 1)) x102000 x102001 x102002 x103000 x103001 x103002) else ((cmp_Compare_uint64.f x102001 x103001).bind fun t104 => (some t104))) else (if x5 = 2 then (if x102002 = x103002 then (prec_cores.l0 k (wrap64 (x5 + 1)) x102000 x102001 x102002 x103000 x103001 x103002) else ((cmp_Compare_uint64.f x102002 x103002).bind fun t105 => (some t105))) else (none)))
def prec_cores.f (k : Nat) (a0_0 : Int) (a0_1 : Int) (a0_2 : Int) (a1_0 : Int) (a1_1 : Int) (a1_2 : Int) : Option (Int) := if a0_0 = a1_0 then (if a0_1 = a1_1 then (if a0_2 = a1_2 then (some 0) else (prec_cores.l0 k 0 a0_0 a0_1 a0_2 a1_0 a1_1 a1_2)) else (prec_cores.l0 k 0 a0_0 a0_1 a0_2 a1_0 a1_1 a1_2)) else (prec_cores.l0 k 0 a0_0 a0_1 a0_2 a1_0 a1_1 a1_2)
theorem prec_cores.mono_l : ∀ k, (∀ y0 y1 y2 y3 y4 y5 y6, LeO (prec_cores.l0 k y0 y1 y2 y3 y4 y5 y6) (prec_cores.l0 (k + 1) y0 y1 y2 y3 y4 y5 y6))
 | 0 => fun _ _ _ _ _ _ _ r h => by simp [prec_cores.l0] at h
 | k + 1 => by
  have ih0 := prec_cores.mono_l k
  ·intro y0 y1 y2 y3 y4 y5 y6
   unfold prec_cores.l0
   repeat' first
   | (with_reducible exact ih0 _ _ _ _ _ _ _)
   | (with_reducible exact LeO.refl _)
   | (with_reducible exact LeO.none _)
   | (with_reducible refine LeO.ite ?_ ?_)
   | (with_reducible refine LeO.bind ?_ (fun _ => ?_))
   | exact ih0 _ _ _ _ _ _ _
   | exact LeO.none _
   | refine LeO.ite ?_ ?_
   | refine LeO.bind ?_ (fun _ => ?_)
theorem prec_cores.mono : ∀ a0 a1 a2 a3 a4 a5 k, LeO (prec_cores.f k a0 a1 a2 a3 a4 a5) (prec_cores.f (k + 1) a0 a1 a2 a3 a4 a5) := by
 intro a0 a1 a2 a3 a4 a5 k
 have ih0 := prec_cores.mono_l k
 unfold prec_cores.f
 repeat' first
   | (with_reducible exact ih0 _ _ _ _ _ _ _)
   | (with_reducible exact LeO.refl _)
   | (with_reducible exact LeO.none _)
   | (with_reducible refine LeO.ite ?_ ?_)
   | (with_reducible refine LeO.bind ?_ (fun _ => ?_))
   | exact ih0 _ _ _ _ _ _ _
   | exact LeO.none _
   | refine LeO.ite ?_ ?_
   | refine LeO.bind ?_ (fun _ => ?_)
set_option maxHeartbeats 8000000 in
set_option maxRecDepth 100000 in
theorem prec_cores.calls (k : Nat) (a0_0 : Int) (a0_1 : Int) (a0_2 : Int) (a1_0 : Int) (a1_1 : Int) (a1_2 : Int) (r : Int) (w : World) (h : prec_cores.f k a0_0 a0_1 a0_2 a1_0 a1_1 a1_2 = some r) :
  Calls Tryd.prog 58 #[.agg #[.int .u64 a0_0, .int .u64 a0_1, .int .u64 a0_2], .agg #[.int .u64 a1_0, .int .u64 a1_1, .int .u64 a1_2]] w fun e w' => e = .returned (.int .i64 r) ∧ Below w.heap.size w w' := by
 have hu67 := Tryd.underlying67
 have HB := Aside0.mk (Below.refl w.heap.size w)
 have H : (if a0_0 = a1_0 then (if a0_1 = a1_1 then (if a0_2 = a1_2 then (some 0) else (prec_cores.l0 k 0 a0_0 a0_1 a0_2 a1_0 a1_1 a1_2)) else (prec_cores.l0 k 0 a0_0 a0_1 a0_2 a1_0 a1_1 a1_2)) else (prec_cores.l0 k 0 a0_0 a0_1 a0_2 a1_0 a1_1 a1_2)) = some r := h
 clear h
 by_cases c3 : a0_0 = a1_0
 ·rw [if_pos c3] at H
  have c3b0 : (a0_0 == a1_0) = true := beq_iff_eq.mpr c3
  have c3b1 : (a0_0 != a1_0) = false := bne_eq_false_iff_eq.mpr c3
  clear c3
  by_cases c4 : a0_1 = a1_1
  ·rw [if_pos c4] at H
   have c4b0 : (a0_1 == a1_1) = true := beq_iff_eq.mpr c4
   have c4b1 : (a0_1 != a1_1) = false := bne_eq_false_iff_eq.mpr c4
   clear c4
   by_cases c5 : a0_2 = a1_2
   ·rw [if_pos c5] at H
    have c5b0 : (a0_2 == a1_2) = true := beq_iff_eq.mpr c5
    have c5b1 : (a0_2 != a1_2) = false := bne_eq_false_iff_eq.mpr c5
    clear c5
    obtain rfl := Option.some.inj H
    go_enter Tryd.func58, Tryd.ntmps58
    go_wp2_with (first | ((with_reducible refine gate_dst (N := 2) rfl ?_); refine box_event ?hg (N := 2) ?hd (cs := #[.int .u64 a0_0, .int .u64 a0_1, .int .u64 a0_2]) (t := 67) ?hr ?_; (case hd => rfl); (case hg => rfl); (case hr => first | (go_simp; done) | (go_simp; rfl)); intro gb101 hg w6 hbox hb; have BK101 := Aside0.mk hbox; have GW101 := Aside0.mk ((by rw [hg]; exact (below_size bB) : w.heap.size ≤ gb101)); have GE101 := Aside0.mk ((by rw [hg]; exact (below_size bB) : w.heap.size ≤ gb101)); replace HB := aB HB hb; clear hb hbox hg) | ((with_reducible refine gate_dst (N := 3) rfl ?_); refine box_event ?hg (N := 3) ?hd (cs := #[.int .u64 a1_0, .int .u64 a1_1, .int .u64 a1_2]) (t := 67) ?hr ?_; (case hd => rfl); (case hg => rfl); (case hr => first | (go_simp; done) | (go_simp; rfl)); intro gb102 hg w7 hbox hb; have BK102 := Aside0.mk hbox; have GW102 := Aside0.mk ((by rw [hg]; exact (below_size bB) : w.heap.size ≤ gb102)); have GE102 := Aside0.mk ((by rw [hg]; exact (below_size bB) : w.heap.size ≤ gb102)); replace HB := aB HB hb; have NB101_102 := Aside0.mk ((by rw [hg]; exact Nat.ne_of_lt (blk_lt (g := gb101) (o := .cells #[.int .u64 a0_0, .int .u64 a0_1, .int .u64 a0_2] 67 (0, 0)) (aKw BK101)) : gb101 ≠ gb102)); have NB102_101 := Aside0.mk ((by rw [hg]; exact Nat.ne_of_gt (blk_lt (g := gb101) (o := .cells #[.int .u64 a0_0, .int .u64 a0_1, .int .u64 a0_2] 67 (0, 0)) (aKw BK101)) : gb102 ≠ gb101)); replace BK101 := aK BK101 hb; clear hb hbox hg; have hnb8 := NB101_102.out; have hnc8 := NB102_101.out; have hcz9_0 : w7.cell? ⟨gb101, 0, none⟩ = some (.int .u64 a0_0) := (blk_cell BK101.out 0).trans rfl; have hcz9_1 : w7.cell? ⟨gb101, 1, none⟩ = some (.int .u64 a0_1) := (blk_cell BK101.out 1).trans rfl; have hcz9_2 : w7.cell? ⟨gb101, 2, none⟩ = some (.int .u64 a0_2) := (blk_cell BK101.out 2).trans rfl; have hfz9_0 := blk_frozen BK101.out 0; have hfz9_1 := blk_frozen BK101.out 1; have hfz9_2 := blk_frozen BK101.out 2; have hcz10_0 : w7.cell? ⟨gb102, 0, none⟩ = some (.int .u64 a1_0) := (blk_cell BK102.out 0).trans rfl; have hcz10_1 : w7.cell? ⟨gb102, 1, none⟩ = some (.int .u64 a1_1) := (blk_cell BK102.out 1).trans rfl; have hcz10_2 : w7.cell? ⟨gb102, 2, none⟩ = some (.int .u64 a1_2) := (blk_cell BK102.out 2).trans rfl; have hfz10_0 := blk_frozen BK102.out 0; have hfz10_1 := blk_frozen BK102.out 1; have hfz10_2 := blk_frozen BK102.out 2) | ((with_reducible refine Lab.wp_scope_lab (Lab.scopeOf Tryd.f58) ?sc k ?_); (case sc => kernel_rfl)))
    repeat (go_quiet (first | ((with_reducible refine gate_dst (N := 2) rfl ?_); refine box_event ?hg (N := 2) ?hd (cs := #[.int .u64 a0_0, .int .u64 a0_1, .int .u64 a0_2]) (t := 67) ?hr ?_; (case hd => rfl); (case hg => rfl); (case hr => first | (go_simp; done) | (go_simp; rfl)); intro gb101 hg w6 hbox hb; have BK101 := Aside0.mk hbox; have GW101 := Aside0.mk ((by rw [hg]; exact (below_size bB) : w.heap.size ≤ gb101)); have GE101 := Aside0.mk ((by rw [hg]; exact (below_size bB) : w.heap.size ≤ gb101)); replace HB := aB HB hb; clear hb hbox hg) | ((with_reducible refine gate_dst (N := 3) rfl ?_); refine box_event ?hg (N := 3) ?hd (cs := #[.int .u64 a1_0, .int .u64 a1_1, .int .u64 a1_2]) (t := 67) ?hr ?_; (case hd => rfl); (case hg => rfl); (case hr => first | (go_simp; done) | (go_simp; rfl)); intro gb102 hg w7 hbox hb; have BK102 := Aside0.mk hbox; have GW102 := Aside0.mk ((by rw [hg]; exact (below_size bB) : w.heap.size ≤ gb102)); have GE102 := Aside0.mk ((by rw [hg]; exact (below_size bB) : w.heap.size ≤ gb102)); replace HB := aB HB hb; have NB101_102 := Aside0.mk ((by rw [hg]; exact Nat.ne_of_lt (blk_lt (g := gb101) (o := .cells #[.int .u64 a0_0, .int .u64 a0_1, .int .u64 a0_2] 67 (0, 0)) (aKw BK101)) : gb101 ≠ gb102)); have NB102_101 := Aside0.mk ((by rw [hg]; exact Nat.ne_of_gt (blk_lt (g := gb101) (o := .cells #[.int .u64 a0_0, .int .u64 a0_1, .int .u64 a0_2] 67 (0, 0)) (aKw BK101)) : gb102 ≠ gb101)); replace BK101 := aK BK101 hb; clear hb hbox hg; have hnb8 := NB101_102.out; have hnc8 := NB102_101.out; have hcz9_0 : w7.cell? ⟨gb101, 0, none⟩ = some (.int .u64 a0_0) := (blk_cell BK101.out 0).trans rfl; have hcz9_1 : w7.cell? ⟨gb101, 1, none⟩ = some (.int .u64 a0_1) := (blk_cell BK101.out 1).trans rfl; have hcz9_2 : w7.cell? ⟨gb101, 2, none⟩ = some (.int .u64 a0_2) := (blk_cell BK101.out 2).trans rfl; have hfz9_0 := blk_frozen BK101.out 0; have hfz9_1 := blk_frozen BK101.out 1; have hfz9_2 := blk_frozen BK101.out 2; have hcz10_0 : w7.cell? ⟨gb102, 0, none⟩ = some (.int .u64 a1_0) := (blk_cell BK102.out 0).trans rfl; have hcz10_1 : w7.cell? ⟨gb102, 1, none⟩ = some (.int .u64 a1_1) := (blk_cell BK102.out 1).trans rfl; have hcz10_2 : w7.cell? ⟨gb102, 2, none⟩ = some (.int .u64 a1_2) := (blk_cell BK102.out 2).trans rfl; have hfz10_0 := blk_frozen BK102.out 0; have hfz10_1 := blk_frozen BK102.out 1; have hfz10_2 := blk_frozen BK102.out 2) | ((with_reducible refine Lab.wp_scope_lab (Lab.scopeOf Tryd.f58) ?sc k ?_); (case sc => kernel_rfl))); try go_wp2_with (first | ((with_reducible refine gate_dst (N := 2) rfl ?_); refine box_event ?hg (N := 2) ?hd (cs := #[.int .u64 a0_0, .int .u64 a0_1, .int .u64 a0_2]) (t := 67) ?hr ?_; (case hd => rfl); (case hg => rfl); (case hr => first | (go_simp; done) | (go_simp; rfl)); intro gb101 hg w6 hbox hb; have BK101 := Aside0.mk hbox; have GW101 := Aside0.mk ((by rw [hg]; exact (below_size bB) : w.heap.size ≤ gb101)); have GE101 := Aside0.mk ((by rw [hg]; exact (below_size bB) : w.heap.size ≤ gb101)); replace HB := aB HB hb; clear hb hbox hg) | ((with_reducible refine gate_dst (N := 3) rfl ?_); refine box_event ?hg (N := 3) ?hd (cs := #[.int .u64 a1_0, .int .u64 a1_1, .int .u64 a1_2]) (t := 67) ?hr ?_; (case hd => rfl); (case hg => rfl); (case hr => first | (go_simp; done) | (go_simp; rfl)); intro gb102 hg w7 hbox hb; have BK102 := Aside0.mk hbox; have GW102 := Aside0.mk ((by rw [hg]; exact (below_size bB) : w.heap.size ≤ gb102)); have GE102 := Aside0.mk ((by rw [hg]; exact (below_size bB) : w.heap.size ≤ gb102)); replace HB := aB HB hb; have NB101_102 := Aside0.mk ((by rw [hg]; exact Nat.ne_of_lt (blk_lt (g := gb101) (o := .cells #[.int .u64 a0_0, .int .u64 a0_1, .int .u64 a0_2] 67 (0, 0)) (aKw BK101)) : gb101 ≠ gb102)); have NB102_101 := Aside0.mk ((by rw [hg]; exact Nat.ne_of_gt (blk_lt (g := gb101) (o := .cells #[.int .u64 a0_0, .int .u64 a0_1, .int .u64 a0_2] 67 (0, 0)) (aKw BK101)) : gb102 ≠ gb101)); replace BK101 := aK BK101 hb; clear hb hbox hg; have hnb8 := NB101_102.out; have hnc8 := NB102_101.out; have hcz9_0 : w7.cell? ⟨gb101, 0, none⟩ = some (.int .u64 a0_0) := (blk_cell BK101.out 0).trans rfl; have hcz9_1 : w7.cell? ⟨gb101, 1, none⟩ = some (.int .u64 a0_1) := (blk_cell BK101.out 1).trans rfl; have hcz9_2 : w7.cell? ⟨gb101, 2, none⟩ = some (.int .u64 a0_2) := (blk_cell BK101.out 2).trans rfl; have hfz9_0 := blk_frozen BK101.out 0; have hfz9_1 := blk_frozen BK101.out 1; have hfz9_2 := blk_frozen BK101.out 2; have hcz10_0 : w7.cell? ⟨gb102, 0, none⟩ = some (.int .u64 a1_0) := (blk_cell BK102.out 0).trans rfl; have hcz10_1 : w7.cell? ⟨gb102, 1, none⟩ = some (.int .u64 a1_1) := (blk_cell BK102.out 1).trans rfl; have hcz10_2 : w7.cell? ⟨gb102, 2, none⟩ = some (.int .u64 a1_2) := (blk_cell BK102.out 2).trans rfl; have hfz10_0 := blk_frozen BK102.out 0; have hfz10_1 := blk_frozen BK102.out 1; have hfz10_2 := blk_frozen BK102.out 2) | ((with_reducible refine Lab.wp_scope_lab (Lab.scopeOf Tryd.f58) ?sc k ?_); (case sc => kernel_rfl))))
    (try simp only [Exit.then, Exit.inBlock, Lab.gotos])
    go_ret
    exact ⟨by first | rfl | (simp [errW_none, errW_some] <;> rfl) | (simp [*, errW_none, errW_some] <;> rfl), bB⟩
   ·rw [if_neg c5] at H
    have c5b0 : (a0_2 == a1_2) = false := beq_eq_false_iff_ne.mpr c5
    have c5b1 : (a0_2 != a1_2) = true := bne_iff_ne.mpr c5
    have H' := Aside0.mk H
    clear H
    go_enter Tryd.func58, Tryd.ntmps58
    go_wp2_with (first | ((with_reducible refine gate_dst (N := 2) rfl ?_); refine box_event ?hg (N := 2) ?hd (cs := #[.int .u64 a0_0, .int .u64 a0_1, .int .u64 a0_2]) (t := 67) ?hr ?_; (case hd => rfl); (case hg => rfl); (case hr => first | (go_simp; done) | (go_simp; rfl)); intro gb101 hg w11 hbox hb; have BK101 := Aside0.mk hbox; have GW101 := Aside0.mk ((by rw [hg]; exact (below_size bB) : w.heap.size ≤ gb101)); have GE101 := Aside0.mk ((by rw [hg]; exact (below_size bB) : w.heap.size ≤ gb101)); replace HB := aB HB hb; clear hb hbox hg) | ((with_reducible refine gate_dst (N := 3) rfl ?_); refine box_event ?hg (N := 3) ?hd (cs := #[.int .u64 a1_0, .int .u64 a1_1, .int .u64 a1_2]) (t := 67) ?hr ?_; (case hd => rfl); (case hg => rfl); (case hr => first | (go_simp; done) | (go_simp; rfl)); intro gb102 hg w12 hbox hb; have BK102 := Aside0.mk hbox; have GW102 := Aside0.mk ((by rw [hg]; exact (below_size bB) : w.heap.size ≤ gb102)); have GE102 := Aside0.mk ((by rw [hg]; exact (below_size bB) : w.heap.size ≤ gb102)); replace HB := aB HB hb; have NB101_102 := Aside0.mk ((by rw [hg]; exact Nat.ne_of_lt (blk_lt (g := gb101) (o := .cells #[.int .u64 a0_0, .int .u64 a0_1, .int .u64 a0_2] 67 (0, 0)) (aKw BK101)) : gb101 ≠ gb102)); have NB102_101 := Aside0.mk ((by rw [hg]; exact Nat.ne_of_gt (blk_lt (g := gb101) (o := .cells #[.int .u64 a0_0, .int .u64 a0_1, .int .u64 a0_2] 67 (0, 0)) (aKw BK101)) : gb102 ≠ gb101)); replace BK101 := aK BK101 hb; clear hb hbox hg; have hnb13 := NB101_102.out; have hnc13 := NB102_101.out; have hcz14_0 : w12.cell? ⟨gb101, 0, none⟩ = some (.int .u64 a0_0) := (blk_cell BK101.out 0).trans rfl; have hcz14_1 : w12.cell? ⟨gb101, 1, none⟩ = some (.int .u64 a0_1) := (blk_cell BK101.out 1).trans rfl; have hcz14_2 : w12.cell? ⟨gb101, 2, none⟩ = some (.int .u64 a0_2) := (blk_cell BK101.out 2).trans rfl; have hfz14_0 := blk_frozen BK101.out 0; have hfz14_1 := blk_frozen BK101.out 1; have hfz14_2 := blk_frozen BK101.out 2; have hcz15_0 : w12.cell? ⟨gb102, 0, none⟩ = some (.int .u64 a1_0) := (blk_cell BK102.out 0).trans rfl; have hcz15_1 : w12.cell? ⟨gb102, 1, none⟩ = some (.int .u64 a1_1) := (blk_cell BK102.out 1).trans rfl; have hcz15_2 : w12.cell? ⟨gb102, 2, none⟩ = some (.int .u64 a1_2) := (blk_cell BK102.out 2).trans rfl; have hfz15_0 := blk_frozen BK102.out 0; have hfz15_1 := blk_frozen BK102.out 1; have hfz15_2 := blk_frozen BK102.out 2) | ((with_reducible refine Lab.wp_scope_lab (Lab.scopeOf Tryd.f58) ?sc k ?_); (case sc => kernel_rfl)))
    repeat (go_quiet (first | ((with_reducible refine gate_dst (N := 2) rfl ?_); refine box_event ?hg (N := 2) ?hd (cs := #[.int .u64 a0_0, .int .u64 a0_1, .int .u64 a0_2]) (t := 67) ?hr ?_; (case hd => rfl); (case hg => rfl); (case hr => first | (go_simp; done) | (go_simp; rfl)); intro gb101 hg w11 hbox hb; have BK101 := Aside0.mk hbox; have GW101 := Aside0.mk ((by rw [hg]; exact (below_size bB) : w.heap.size ≤ gb101)); have GE101 := Aside0.mk ((by rw [hg]; exact (below_size bB) : w.heap.size ≤ gb101)); replace HB := aB HB hb; clear hb hbox hg) | ((with_reducible refine gate_dst (N := 3) rfl ?_); refine box_event ?hg (N := 3) ?hd (cs := #[.int .u64 a1_0, .int .u64 a1_1, .int .u64 a1_2]) (t := 67) ?hr ?_; (case hd => rfl); (case hg => rfl); (case hr => first | (go_simp; done) | (go_simp; rfl)); intro gb102 hg w12 hbox hb; have BK102 := Aside0.mk hbox; have GW102 := Aside0.mk ((by rw [hg]; exact (below_size bB) : w.heap.size ≤ gb102)); have GE102 := Aside0.mk ((by rw [hg]; exact (below_size bB) : w.heap.size ≤ gb102)); replace HB := aB HB hb; have NB101_102 := Aside0.mk ((by rw [hg]; exact Nat.ne_of_lt (blk_lt (g := gb101) (o := .cells #[.int .u64 a0_0, .int .u64 a0_1, .int .u64 a0_2] 67 (0, 0)) (aKw BK101)) : gb101 ≠ gb102)); have NB102_101 := Aside0.mk ((by rw [hg]; exact Nat.ne_of_gt (blk_lt (g := gb101) (o := .cells #[.int .u64 a0_0, .int .u64 a0_1, .int .u64 a0_2] 67 (0, 0)) (aKw BK101)) : gb102 ≠ gb101)); replace BK101 := aK BK101 hb; clear hb hbox hg; have hnb13 := NB101_102.out; have hnc13 := NB102_101.out; have hcz14_0 : w12.cell? ⟨gb101, 0, none⟩ = some (.int .u64 a0_0) := (blk_cell BK101.out 0).trans rfl; have hcz14_1 : w12.cell? ⟨gb101, 1, none⟩ = some (.int .u64 a0_1) := (blk_cell BK101.out 1).trans rfl; have hcz14_2 : w12.cell? ⟨gb101, 2, none⟩ = some (.int .u64 a0_2) := (blk_cell BK101.out 2).trans rfl; have hfz14_0 := blk_frozen BK101.out 0; have hfz14_1 := blk_frozen BK101.out 1; have hfz14_2 := blk_frozen BK101.out 2; have hcz15_0 : w12.cell? ⟨gb102, 0, none⟩ = some (.int .u64 a1_0) := (blk_cell BK102.out 0).trans rfl; have hcz15_1 : w12.cell? ⟨gb102, 1, none⟩ = some (.int .u64 a1_1) := (blk_cell BK102.out 1).trans rfl; have hcz15_2 : w12.cell? ⟨gb102, 2, none⟩ = some (.int .u64 a1_2) := (blk_cell BK102.out 2).trans rfl; have hfz15_0 := blk_frozen BK102.out 0; have hfz15_1 := blk_frozen BK102.out 1; have hfz15_2 := blk_frozen BK102.out 2) | ((with_reducible refine Lab.wp_scope_lab (Lab.scopeOf Tryd.f58) ?sc k ?_); (case sc => kernel_rfl))); try go_wp2_with (first | ((with_reducible refine gate_dst (N := 2) rfl ?_); refine box_event ?hg (N := 2) ?hd (cs := #[.int .u64 a0_0, .int .u64 a0_1, .int .u64 a0_2]) (t := 67) ?hr ?_; (case hd => rfl); (case hg => rfl); (case hr => first | (go_simp; done) | (go_simp; rfl)); intro gb101 hg w11 hbox hb; have BK101 := Aside0.mk hbox; have GW101 := Aside0.mk ((by rw [hg]; exact (below_size bB) : w.heap.size ≤ gb101)); have GE101 := Aside0.mk ((by rw [hg]; exact (below_size bB) : w.heap.size ≤ gb101)); replace HB := aB HB hb; clear hb hbox hg) | ((with_reducible refine gate_dst (N := 3) rfl ?_); refine box_event ?hg (N := 3) ?hd (cs := #[.int .u64 a1_0, .int .u64 a1_1, .int .u64 a1_2]) (t := 67) ?hr ?_; (case hd => rfl); (case hg => rfl); (case hr => first | (go_simp; done) | (go_simp; rfl)); intro gb102 hg w12 hbox hb; have BK102 := Aside0.mk hbox; have GW102 := Aside0.mk ((by rw [hg]; exact (below_size bB) : w.heap.size ≤ gb102)); have GE102 := Aside0.mk ((by rw [hg]; exact (below_size bB) : w.heap.size ≤ gb102)); replace HB := aB HB hb; have NB101_102 := Aside0.mk ((by rw [hg]; exact Nat.ne_of_lt (blk_lt (g := gb101) (o := .cells #[.int .u64 a0_0, .int .u64 a0_1, .int .u64 a0_2] 67 (0, 0)) (aKw BK101)) : gb101 ≠ gb102)); have NB102_101 := Aside0.mk ((by rw [hg]; exact Nat.ne_of_gt (blk_lt (g := gb101) (o := .cells #[.int .u64 a0_0, .int .u64 a0_1, .int .u64 a0_2] 67 (0, 0)) (aKw BK101)) : gb102 ≠ gb101)); replace BK101 := aK BK101 hb; clear hb hbox hg; have hnb13 := NB101_102.out; have hnc13 := NB102_101.out; have hcz14_0 : w12.cell? ⟨gb101, 0, none⟩ = some (.int .u64 a0_0) := (blk_cell BK101.out 0).trans rfl; have hcz14_1 : w12.cell? ⟨gb101, 1, none⟩ = some (.int .u64 a0_1) := (blk_cell BK101.out 1).trans rfl; have hcz14_2 : w12.cell? ⟨gb101, 2, none⟩ = some (.int .u64 a0_2) := (blk_cell BK101.out 2).trans rfl; have hfz14_0 := blk_frozen BK101.out 0; have hfz14_1 := blk_frozen BK101.out 1; have hfz14_2 := blk_frozen BK101.out 2; have hcz15_0 : w12.cell? ⟨gb102, 0, none⟩ = some (.int .u64 a1_0) := (blk_cell BK102.out 0).trans rfl; have hcz15_1 : w12.cell? ⟨gb102, 1, none⟩ = some (.int .u64 a1_1) := (blk_cell BK102.out 1).trans rfl; have hcz15_2 : w12.cell? ⟨gb102, 2, none⟩ = some (.int .u64 a1_2) := (blk_cell BK102.out 2).trans rfl; have hfz15_0 := blk_frozen BK102.out 0; have hfz15_1 := blk_frozen BK102.out 1; have hfz15_2 := blk_frozen BK102.out 2) | ((with_reducible refine Lab.wp_scope_lab (Lab.scopeOf Tryd.f58) ?sc k ?_); (case sc => kernel_rfl))))
    go_step3
    go_step
    (try go_step)
    refine Lab.wp_at_label (l := 0) (fun a0_ kq a_ w_ => ∃ u4 u5 u6 u7 u8 u9 u10 u11 u12 u13 u14 u15 u16 u17 u18 u19 u20 u21 u22 u23 u24 : Value, ((fun kq v5 w' => ∃ (x5_1 : Int), v5 = .int .i64 x5_1 ∧ Aside0 (prec_cores.l0 kq x5_1 a0_0 a0_1 a0_2 a1_0 a1_1 a1_2 = some r) ∧ Aside0 (kq ≤ k) ∧ Aside0 (w'.heap[gb101]? = some (.cells #[.int .u64 a0_0, .int .u64 a0_1, .int .u64 a0_2] 67 (0, 0))) ∧ Aside0 (w'.heap[gb102]? = some (.cells #[.int .u64 a1_0, .int .u64 a1_1, .int .u64 a1_2] 67 (0, 0))) ∧ Aside0 (Below w.heap.size w w')) kq u5 w_) ∧ a_ = (((((((((((((((((((((a0_.put (some 4) u4).put (some 5) u5).put (some 6) u6).put (some 7) u7).put (some 8) u8).put (some 9) u9).put (some 10) u10).put (some 11) u11).put (some 12) u12).put (some 13) u13).put (some 14) u14).put (some 15) u15).put (some 16) u16).put (some 17) u17).put (some 18) u18).put (some 19) u19).put (some 20) u20).put (some 21) u21).put (some 22) u22).put (some 23) u23).put (some 24) u24)) k ?fl (by first | omega | exact Nat.le_refl _) ?atStart ?round
    case fl => kernel_rfl
    case atStart =>
     (repeat apply Exists.intro)
     refine ⟨?rel, ?fr⟩
     case fr => (simp only [Act.put, List.setIfInBounds_toArray, List.set_cons_zero, List.set_cons_succ] <;> rfl)
     case rel => exact ⟨(0), bS, H', ⟨Nat.le_refl _⟩, ⟨aKw BK101⟩, ⟨aKw BK102⟩, ⟨bB⟩⟩
    case round =>
     intro gk a_ wr hle_ hinv HIH_0
     clear hle_
     obtain ⟨u4, u5, u6, u7, u8, u9, u10, u11, u12, u13, u14, u15, u16, u17, u18, u19, u20, u21, u22, u23, u24, hrel, rfl⟩ := hinv
     (try dsimp only at hrel)
     simp only [Act.put, List.setIfInBounds_toArray, List.set_cons_zero, List.set_cons_succ]
     clear H'
     try clear c1
     try clear p2
     try clear c3
     try clear c3b0
     try clear c3b1
     try clear p3
     try clear c4
     try clear c4b0
     try clear c4b1
     try clear c5
     try clear c5b0
     try clear c5b1
     try clear p6
     try clear c8
     try clear c13
     try clear hcz10_0
     try clear hcz10_1
     try clear hcz10_2
     try clear hcz14_0
     try clear hcz14_1
     try clear hcz14_2
     try clear hcz15_0
     try clear hcz15_1
     try clear hcz15_2
     try clear hcz9_0
     try clear hcz9_1
     try clear hcz9_2
     try clear hfz10_0
     try clear hfz10_1
     try clear hfz10_2
     try clear hfz14_0
     try clear hfz14_1
     try clear hfz14_2
     try clear hfz15_0
     try clear hfz15_1
     try clear hfz15_2
     try clear hfz9_0
     try clear hfz9_1
     try clear hfz9_2
     obtain ⟨x5_1, rfl, HA, HK1, BK101, BK102, HB⟩ := hrel
     cases gk with
     | zero => exact absurd HA.out (by simp [prec_cores.l0])
     | succ k1 =>
      have H := HA.out
      clear HA
      simp only [prec_cores.l0] at H
      by_cases c16 : x5_1 = 0
      ·rw [if_pos c16] at H
       have c16b0 : (x5_1 == 0) = true := beq_iff_eq.mpr c16
       have c16b1 : (x5_1 != 0) = false := bne_eq_false_iff_eq.mpr c16
       clear c16
       by_cases c17 : a0_0 = a1_0
       ·rw [if_pos c17] at H
        have c17b0 : (a0_0 == a1_0) = true := beq_iff_eq.mpr c17
        have c17b1 : (a0_0 != a1_0) = false := bne_eq_false_iff_eq.mpr c17
        clear c17
        have H' := Aside0.mk H
        clear H
        have ix18 : (x5_1 : Int) = 0 := (by first | (with_reducible assumption) | assumption | exact eq_of_beq bA | omega)
        have p18 : (0 ≤ (x5_1 : Int)) = True := eq_true (by omega)
        have q18 : ((x5_1 : Int) < 3) = True := eq_true (by omega)
        have t18 : (x5_1 : Int).toNat = 0 := (by omega)
        clear ix18
        have hnb19 := NB101_102.out
        have hnc19 := NB102_101.out
        have hcz20_0 : wr.cell? ⟨gb101, 0, none⟩ = some (.int .u64 a0_0) := (blk_cell BK101.out 0).trans rfl
        have hcz20_1 : wr.cell? ⟨gb101, 1, none⟩ = some (.int .u64 a0_1) := (blk_cell BK101.out 1).trans rfl
        have hcz20_2 : wr.cell? ⟨gb101, 2, none⟩ = some (.int .u64 a0_2) := (blk_cell BK101.out 2).trans rfl
        have hfz20_0 := blk_frozen BK101.out 0
        have hfz20_1 := blk_frozen BK101.out 1
        have hfz20_2 := blk_frozen BK101.out 2
        have ix21 : (x5_1 : Int) = 0 := (by first | (with_reducible assumption) | assumption | exact eq_of_beq bA | omega)
        have p21 : (0 ≤ (x5_1 : Int)) = True := eq_true (by omega)
        have q21 : ((x5_1 : Int) < 3) = True := eq_true (by omega)
        have t21 : (x5_1 : Int).toNat = 0 := (by omega)
        clear ix21
        have hcz22_0 : wr.cell? ⟨gb102, 0, none⟩ = some (.int .u64 a1_0) := (blk_cell BK102.out 0).trans rfl
        have hcz22_1 : wr.cell? ⟨gb102, 1, none⟩ = some (.int .u64 a1_1) := (blk_cell BK102.out 1).trans rfl
        have hcz22_2 : wr.cell? ⟨gb102, 2, none⟩ = some (.int .u64 a1_2) := (blk_cell BK102.out 2).trans rfl
        have hfz22_0 := blk_frozen BK102.out 0
        have hfz22_1 := blk_frozen BK102.out 1
        have hfz22_2 := blk_frozen BK102.out 2
        go_wp2
        repeat (go_quiet (fail); try go_wp2)
        go_step3
        (try simp only [Exit.then, Exit.inBlock, Lab.gotos])
        refine Lab.again HIH_0 k1 ?lm1 ?lm2 ?lm3
        case lm1 => have := HK1.out; omega
        case lm2 => have := HK1.out; omega
        case lm3 =>
         (repeat apply Exists.intro)
         refine ⟨?rel, ?fr⟩
         case fr => (simp only [Act.put, List.setIfInBounds_toArray, List.set_cons_zero, List.set_cons_succ] <;> rfl)
         case rel => exact ⟨(wrap64 (x5_1 + 1)), bS, H', ⟨by have := HK1.out; omega⟩, ⟨aKw BK101⟩, ⟨aKw BK102⟩, ⟨bB⟩⟩
       ·rw [if_neg c17] at H
        have c17b0 : (a0_0 == a1_0) = false := beq_eq_false_iff_ne.mpr c17
        have c17b1 : (a0_0 != a1_0) = true := bne_iff_ne.mpr c17
        replace H := Option.bind_eq_some_iff.mp H
        obtain ⟨t103, A230, H⟩ := H
        replace H : (some t103) = some r := H
        have A23 := Aside0.mk A230
        clear A230
        obtain rfl := Option.some.inj H
        have ix24 : (x5_1 : Int) = 0 := (by first | (with_reducible assumption) | assumption | exact eq_of_beq bA | omega)
        have p24 : (0 ≤ (x5_1 : Int)) = True := eq_true (by omega)
        have q24 : ((x5_1 : Int) < 3) = True := eq_true (by omega)
        have t24 : (x5_1 : Int).toNat = 0 := (by omega)
        clear ix24
        have hnb25 := NB101_102.out
        have hnc25 := NB102_101.out
        have hcz26_0 : wr.cell? ⟨gb101, 0, none⟩ = some (.int .u64 a0_0) := (blk_cell BK101.out 0).trans rfl
        have hcz26_1 : wr.cell? ⟨gb101, 1, none⟩ = some (.int .u64 a0_1) := (blk_cell BK101.out 1).trans rfl
        have hcz26_2 : wr.cell? ⟨gb101, 2, none⟩ = some (.int .u64 a0_2) := (blk_cell BK101.out 2).trans rfl
        have hfz26_0 := blk_frozen BK101.out 0
        have hfz26_1 := blk_frozen BK101.out 1
        have hfz26_2 := blk_frozen BK101.out 2
        have ix27 : (x5_1 : Int) = 0 := (by first | (with_reducible assumption) | assumption | exact eq_of_beq bA | omega)
        have p27 : (0 ≤ (x5_1 : Int)) = True := eq_true (by omega)
        have q27 : ((x5_1 : Int) < 3) = True := eq_true (by omega)
        have t27 : (x5_1 : Int).toNat = 0 := (by omega)
        clear ix27
        have hcz28_0 : wr.cell? ⟨gb102, 0, none⟩ = some (.int .u64 a1_0) := (blk_cell BK102.out 0).trans rfl
        have hcz28_1 : wr.cell? ⟨gb102, 1, none⟩ = some (.int .u64 a1_1) := (blk_cell BK102.out 1).trans rfl
        have hcz28_2 : wr.cell? ⟨gb102, 2, none⟩ = some (.int .u64 a1_2) := (blk_cell BK102.out 2).trans rfl
        have hfz28_0 := blk_frozen BK102.out 0
        have hfz28_1 := blk_frozen BK102.out 1
        have hfz28_2 := blk_frozen BK102.out 2
        have ix29 : (x5_1 : Int) = 0 := (by first | (with_reducible assumption) | assumption | exact eq_of_beq bA | omega)
        have p29 : (0 ≤ (x5_1 : Int)) = True := eq_true (by omega)
        have q29 : ((x5_1 : Int) < 3) = True := eq_true (by omega)
        have t29 : (x5_1 : Int).toNat = 0 := (by omega)
        clear ix29
        have ix30 : (x5_1 : Int) = 0 := (by first | (with_reducible assumption) | assumption | exact eq_of_beq bA | omega)
        have p30 : (0 ≤ (x5_1 : Int)) = True := eq_true (by omega)
        have q30 : ((x5_1 : Int) < 3) = True := eq_true (by omega)
        have t30 : (x5_1 : Int).toNat = 0 := (by omega)
        clear ix30
        go_wp2_with (first | (go_at_call 79; (with_reducible refine (cmp_Compare_uint64.calls a0_0 a1_0 t103 _ A23.out).mono ?_); rintro e w' ⟨rfl, ⟨nd, rfl⟩⟩; (try first | exact ⟨rfl, _, World.drewN_drewN _ _ _⟩ | exact ⟨rfl, _, Eq.trans (World.drewN_drewN _ _ _) (congrArg (World.drewN _) (Nat.add_assoc _ _ _))⟩)))
        repeat (go_quiet (first | (go_at_call 79; (with_reducible refine (cmp_Compare_uint64.calls a0_0 a1_0 t103 _ A23.out).mono ?_); rintro e w' ⟨rfl, ⟨nd, rfl⟩⟩; (try first | exact ⟨rfl, _, World.drewN_drewN _ _ _⟩ | exact ⟨rfl, _, Eq.trans (World.drewN_drewN _ _ _) (congrArg (World.drewN _) (Nat.add_assoc _ _ _))⟩))); try go_wp2_with (first | (go_at_call 79; (with_reducible refine (cmp_Compare_uint64.calls a0_0 a1_0 t103 _ A23.out).mono ?_); rintro e w' ⟨rfl, ⟨nd, rfl⟩⟩; (try first | exact ⟨rfl, _, World.drewN_drewN _ _ _⟩ | exact ⟨rfl, _, Eq.trans (World.drewN_drewN _ _ _) (congrArg (World.drewN _) (Nat.add_assoc _ _ _))⟩))))
        (try simp only [Exit.then, Exit.inBlock, Lab.gotos])
        go_ret
        exact ⟨by first | rfl | (simp [errW_none, errW_some] <;> rfl) | (simp [*, errW_none, errW_some] <;> rfl), bB⟩
      ·rw [if_neg c16] at H
       have c16b0 : (x5_1 == 0) = false := beq_eq_false_iff_ne.mpr c16
       have c16b1 : (x5_1 != 0) = true := bne_iff_ne.mpr c16
       by_cases c31 : x5_1 = 1
       ·rw [if_pos c31] at H
        have c31b0 : (x5_1 == 1) = true := beq_iff_eq.mpr c31
        have c31b1 : (x5_1 != 1) = false := bne_eq_false_iff_eq.mpr c31
        clear c31
        by_cases c32 : a0_1 = a1_1
        ·rw [if_pos c32] at H
         have c32b0 : (a0_1 == a1_1) = true := beq_iff_eq.mpr c32
         have c32b1 : (a0_1 != a1_1) = false := bne_eq_false_iff_eq.mpr c32
         clear c32
         have H' := Aside0.mk H
         clear H
         have ix33 : (x5_1 : Int) = 1 := (by first | (with_reducible assumption) | assumption | exact eq_of_beq bA | omega)
         have p33 : (0 ≤ (x5_1 : Int)) = True := eq_true (by omega)
         have q33 : ((x5_1 : Int) < 3) = True := eq_true (by omega)
         have t33 : (x5_1 : Int).toNat = 1 := (by omega)
         clear ix33
         have hnb34 := NB101_102.out
         have hnc34 := NB102_101.out
         have hcz35_0 : wr.cell? ⟨gb101, 0, none⟩ = some (.int .u64 a0_0) := (blk_cell BK101.out 0).trans rfl
         have hcz35_1 : wr.cell? ⟨gb101, 1, none⟩ = some (.int .u64 a0_1) := (blk_cell BK101.out 1).trans rfl
         have hcz35_2 : wr.cell? ⟨gb101, 2, none⟩ = some (.int .u64 a0_2) := (blk_cell BK101.out 2).trans rfl
         have hfz35_0 := blk_frozen BK101.out 0
         have hfz35_1 := blk_frozen BK101.out 1
         have hfz35_2 := blk_frozen BK101.out 2
         have ix36 : (x5_1 : Int) = 1 := (by first | (with_reducible assumption) | assumption | exact eq_of_beq bA | omega)
         have p36 : (0 ≤ (x5_1 : Int)) = True := eq_true (by omega)
         have q36 : ((x5_1 : Int) < 3) = True := eq_true (by omega)
         have t36 : (x5_1 : Int).toNat = 1 := (by omega)
         clear ix36
         have hcz37_0 : wr.cell? ⟨gb102, 0, none⟩ = some (.int .u64 a1_0) := (blk_cell BK102.out 0).trans rfl
         have hcz37_1 : wr.cell? ⟨gb102, 1, none⟩ = some (.int .u64 a1_1) := (blk_cell BK102.out 1).trans rfl
         have hcz37_2 : wr.cell? ⟨gb102, 2, none⟩ = some (.int .u64 a1_2) := (blk_cell BK102.out 2).trans rfl
         have hfz37_0 := blk_frozen BK102.out 0
         have hfz37_1 := blk_frozen BK102.out 1
         have hfz37_2 := blk_frozen BK102.out 2
         go_wp2
         repeat (go_quiet (fail); try go_wp2)
         go_step3
         (try simp only [Exit.then, Exit.inBlock, Lab.gotos])
         refine Lab.again HIH_0 k1 ?lm1 ?lm2 ?lm3
         case lm1 => have := HK1.out; omega
         case lm2 => have := HK1.out; omega
         case lm3 =>
          (repeat apply Exists.intro)
          refine ⟨?rel, ?fr⟩
          case fr => (simp only [Act.put, List.setIfInBounds_toArray, List.set_cons_zero, List.set_cons_succ] <;> rfl)
          case rel => exact ⟨(wrap64 (x5_1 + 1)), bS, H', ⟨by have := HK1.out; omega⟩, ⟨aKw BK101⟩, ⟨aKw BK102⟩, ⟨bB⟩⟩
        ·rw [if_neg c32] at H
         have c32b0 : (a0_1 == a1_1) = false := beq_eq_false_iff_ne.mpr c32
         have c32b1 : (a0_1 != a1_1) = true := bne_iff_ne.mpr c32
         replace H := Option.bind_eq_some_iff.mp H
         obtain ⟨t104, A380, H⟩ := H
         replace H : (some t104) = some r := H
         have A38 := Aside0.mk A380
         clear A380
         obtain rfl := Option.some.inj H
         have ix39 : (x5_1 : Int) = 1 := (by first | (with_reducible assumption) | assumption | exact eq_of_beq bA | omega)
         have p39 : (0 ≤ (x5_1 : Int)) = True := eq_true (by omega)
         have q39 : ((x5_1 : Int) < 3) = True := eq_true (by omega)
         have t39 : (x5_1 : Int).toNat = 1 := (by omega)
         clear ix39
         have hnb40 := NB101_102.out
         have hnc40 := NB102_101.out
         have hcz41_0 : wr.cell? ⟨gb101, 0, none⟩ = some (.int .u64 a0_0) := (blk_cell BK101.out 0).trans rfl
         have hcz41_1 : wr.cell? ⟨gb101, 1, none⟩ = some (.int .u64 a0_1) := (blk_cell BK101.out 1).trans rfl
         have hcz41_2 : wr.cell? ⟨gb101, 2, none⟩ = some (.int .u64 a0_2) := (blk_cell BK101.out 2).trans rfl
         have hfz41_0 := blk_frozen BK101.out 0
         have hfz41_1 := blk_frozen BK101.out 1
         have hfz41_2 := blk_frozen BK101.out 2
         have ix42 : (x5_1 : Int) = 1 := (by first | (with_reducible assumption) | assumption | exact eq_of_beq bA | omega)
         have p42 : (0 ≤ (x5_1 : Int)) = True := eq_true (by omega)
         have q42 : ((x5_1 : Int) < 3) = True := eq_true (by omega)
         have t42 : (x5_1 : Int).toNat = 1 := (by omega)
         clear ix42
         have hcz43_0 : wr.cell? ⟨gb102, 0, none⟩ = some (.int .u64 a1_0) := (blk_cell BK102.out 0).trans rfl
         have hcz43_1 : wr.cell? ⟨gb102, 1, none⟩ = some (.int .u64 a1_1) := (blk_cell BK102.out 1).trans rfl
         have hcz43_2 : wr.cell? ⟨gb102, 2, none⟩ = some (.int .u64 a1_2) := (blk_cell BK102.out 2).trans rfl
         have hfz43_0 := blk_frozen BK102.out 0
         have hfz43_1 := blk_frozen BK102.out 1
         have hfz43_2 := blk_frozen BK102.out 2
         have ix44 : (x5_1 : Int) = 1 := (by first | (with_reducible assumption) | assumption | exact eq_of_beq bA | omega)
         have p44 : (0 ≤ (x5_1 : Int)) = True := eq_true (by omega)
         have q44 : ((x5_1 : Int) < 3) = True := eq_true (by omega)
         have t44 : (x5_1 : Int).toNat = 1 := (by omega)
         clear ix44
         have ix45 : (x5_1 : Int) = 1 := (by first | (with_reducible assumption) | assumption | exact eq_of_beq bA | omega)
         have p45 : (0 ≤ (x5_1 : Int)) = True := eq_true (by omega)
         have q45 : ((x5_1 : Int) < 3) = True := eq_true (by omega)
         have t45 : (x5_1 : Int).toNat = 1 := (by omega)
         clear ix45
         go_wp2_with (first | (go_at_call 79; (with_reducible refine (cmp_Compare_uint64.calls a0_1 a1_1 t104 _ A38.out).mono ?_); rintro e w' ⟨rfl, ⟨nd, rfl⟩⟩; (try first | exact ⟨rfl, _, World.drewN_drewN _ _ _⟩ | exact ⟨rfl, _, Eq.trans (World.drewN_drewN _ _ _) (congrArg (World.drewN _) (Nat.add_assoc _ _ _))⟩)))
         repeat (go_quiet (first | (go_at_call 79; (with_reducible refine (cmp_Compare_uint64.calls a0_1 a1_1 t104 _ A38.out).mono ?_); rintro e w' ⟨rfl, ⟨nd, rfl⟩⟩; (try first | exact ⟨rfl, _, World.drewN_drewN _ _ _⟩ | exact ⟨rfl, _, Eq.trans (World.drewN_drewN _ _ _) (congrArg (World.drewN _) (Nat.add_assoc _ _ _))⟩))); try go_wp2_with (first | (go_at_call 79; (with_reducible refine (cmp_Compare_uint64.calls a0_1 a1_1 t104 _ A38.out).mono ?_); rintro e w' ⟨rfl, ⟨nd, rfl⟩⟩; (try first | exact ⟨rfl, _, World.drewN_drewN _ _ _⟩ | exact ⟨rfl, _, Eq.trans (World.drewN_drewN _ _ _) (congrArg (World.drewN _) (Nat.add_assoc _ _ _))⟩))))
         (try simp only [Exit.then, Exit.inBlock, Lab.gotos])
         go_ret
         exact ⟨by first | rfl | (simp [errW_none, errW_some] <;> rfl) | (simp [*, errW_none, errW_some] <;> rfl), bB⟩
       ·rw [if_neg c31] at H
        have c31b0 : (x5_1 == 1) = false := beq_eq_false_iff_ne.mpr c31
        have c31b1 : (x5_1 != 1) = true := bne_iff_ne.mpr c31
        by_cases c46 : x5_1 = 2
        ·rw [if_pos c46] at H
         have c46b0 : (x5_1 == 2) = true := beq_iff_eq.mpr c46
         have c46b1 : (x5_1 != 2) = false := bne_eq_false_iff_eq.mpr c46
         clear c46
         by_cases c47 : a0_2 = a1_2
         ·rw [if_pos c47] at H
          have c47b0 : (a0_2 == a1_2) = true := beq_iff_eq.mpr c47
          have c47b1 : (a0_2 != a1_2) = false := bne_eq_false_iff_eq.mpr c47
          clear c47
          have H' := Aside0.mk H
          clear H
          have ix48 : (x5_1 : Int) = 2 := (by first | (with_reducible assumption) | assumption | exact eq_of_beq bA | omega)
          have p48 : (0 ≤ (x5_1 : Int)) = True := eq_true (by omega)
          have q48 : ((x5_1 : Int) < 3) = True := eq_true (by omega)
          have t48 : (x5_1 : Int).toNat = 2 := (by omega)
          clear ix48
          have hnb49 := NB101_102.out
          have hnc49 := NB102_101.out
          have hcz50_0 : wr.cell? ⟨gb101, 0, none⟩ = some (.int .u64 a0_0) := (blk_cell BK101.out 0).trans rfl
          have hcz50_1 : wr.cell? ⟨gb101, 1, none⟩ = some (.int .u64 a0_1) := (blk_cell BK101.out 1).trans rfl
          have hcz50_2 : wr.cell? ⟨gb101, 2, none⟩ = some (.int .u64 a0_2) := (blk_cell BK101.out 2).trans rfl
          have hfz50_0 := blk_frozen BK101.out 0
          have hfz50_1 := blk_frozen BK101.out 1
          have hfz50_2 := blk_frozen BK101.out 2
          have ix51 : (x5_1 : Int) = 2 := (by first | (with_reducible assumption) | assumption | exact eq_of_beq bA | omega)
          have p51 : (0 ≤ (x5_1 : Int)) = True := eq_true (by omega)
          have q51 : ((x5_1 : Int) < 3) = True := eq_true (by omega)
          have t51 : (x5_1 : Int).toNat = 2 := (by omega)
          clear ix51
          have hcz52_0 : wr.cell? ⟨gb102, 0, none⟩ = some (.int .u64 a1_0) := (blk_cell BK102.out 0).trans rfl
          have hcz52_1 : wr.cell? ⟨gb102, 1, none⟩ = some (.int .u64 a1_1) := (blk_cell BK102.out 1).trans rfl
          have hcz52_2 : wr.cell? ⟨gb102, 2, none⟩ = some (.int .u64 a1_2) := (blk_cell BK102.out 2).trans rfl
          have hfz52_0 := blk_frozen BK102.out 0
          have hfz52_1 := blk_frozen BK102.out 1
          have hfz52_2 := blk_frozen BK102.out 2
          go_wp2
          repeat (go_quiet (fail); try go_wp2)
          go_step3
          (try simp only [Exit.then, Exit.inBlock, Lab.gotos])
          refine Lab.again HIH_0 k1 ?lm1 ?lm2 ?lm3
          case lm1 => have := HK1.out; omega
          case lm2 => have := HK1.out; omega
          case lm3 =>
           (repeat apply Exists.intro)
           refine ⟨?rel, ?fr⟩
           case fr => (simp only [Act.put, List.setIfInBounds_toArray, List.set_cons_zero, List.set_cons_succ] <;> rfl)
           case rel => exact ⟨(wrap64 (x5_1 + 1)), bS, H', ⟨by have := HK1.out; omega⟩, ⟨aKw BK101⟩, ⟨aKw BK102⟩, ⟨bB⟩⟩
         ·rw [if_neg c47] at H
          have c47b0 : (a0_2 == a1_2) = false := beq_eq_false_iff_ne.mpr c47
          have c47b1 : (a0_2 != a1_2) = true := bne_iff_ne.mpr c47
          replace H := Option.bind_eq_some_iff.mp H
          obtain ⟨t105, A530, H⟩ := H
          replace H : (some t105) = some r := H
          have A53 := Aside0.mk A530
          clear A530
          obtain rfl := Option.some.inj H
          have ix54 : (x5_1 : Int) = 2 := (by first | (with_reducible assumption) | assumption | exact eq_of_beq bA | omega)
          have p54 : (0 ≤ (x5_1 : Int)) = True := eq_true (by omega)
          have q54 : ((x5_1 : Int) < 3) = True := eq_true (by omega)
          have t54 : (x5_1 : Int).toNat = 2 := (by omega)
          clear ix54
          have hnb55 := NB101_102.out
          have hnc55 := NB102_101.out
          have hcz56_0 : wr.cell? ⟨gb101, 0, none⟩ = some (.int .u64 a0_0) := (blk_cell BK101.out 0).trans rfl
          have hcz56_1 : wr.cell? ⟨gb101, 1, none⟩ = some (.int .u64 a0_1) := (blk_cell BK101.out 1).trans rfl
          have hcz56_2 : wr.cell? ⟨gb101, 2, none⟩ = some (.int .u64 a0_2) := (blk_cell BK101.out 2).trans rfl
          have hfz56_0 := blk_frozen BK101.out 0
          have hfz56_1 := blk_frozen BK101.out 1
          have hfz56_2 := blk_frozen BK101.out 2
          have ix57 : (x5_1 : Int) = 2 := (by first | (with_reducible assumption) | assumption | exact eq_of_beq bA | omega)
          have p57 : (0 ≤ (x5_1 : Int)) = True := eq_true (by omega)
          have q57 : ((x5_1 : Int) < 3) = True := eq_true (by omega)
          have t57 : (x5_1 : Int).toNat = 2 := (by omega)
          clear ix57
          have hcz58_0 : wr.cell? ⟨gb102, 0, none⟩ = some (.int .u64 a1_0) := (blk_cell BK102.out 0).trans rfl
          have hcz58_1 : wr.cell? ⟨gb102, 1, none⟩ = some (.int .u64 a1_1) := (blk_cell BK102.out 1).trans rfl
          have hcz58_2 : wr.cell? ⟨gb102, 2, none⟩ = some (.int .u64 a1_2) := (blk_cell BK102.out 2).trans rfl
          have hfz58_0 := blk_frozen BK102.out 0
          have hfz58_1 := blk_frozen BK102.out 1
          have hfz58_2 := blk_frozen BK102.out 2
          have ix59 : (x5_1 : Int) = 2 := (by first | (with_reducible assumption) | assumption | exact eq_of_beq bA | omega)
          have p59 : (0 ≤ (x5_1 : Int)) = True := eq_true (by omega)
          have q59 : ((x5_1 : Int) < 3) = True := eq_true (by omega)
          have t59 : (x5_1 : Int).toNat = 2 := (by omega)
          clear ix59
          have ix60 : (x5_1 : Int) = 2 := (by first | (with_reducible assumption) | assumption | exact eq_of_beq bA | omega)
          have p60 : (0 ≤ (x5_1 : Int)) = True := eq_true (by omega)
          have q60 : ((x5_1 : Int) < 3) = True := eq_true (by omega)
          have t60 : (x5_1 : Int).toNat = 2 := (by omega)
          clear ix60
          go_wp2_with (first | (go_at_call 79; (with_reducible refine (cmp_Compare_uint64.calls a0_2 a1_2 t105 _ A53.out).mono ?_); rintro e w' ⟨rfl, ⟨nd, rfl⟩⟩; (try first | exact ⟨rfl, _, World.drewN_drewN _ _ _⟩ | exact ⟨rfl, _, Eq.trans (World.drewN_drewN _ _ _) (congrArg (World.drewN _) (Nat.add_assoc _ _ _))⟩)))
          repeat (go_quiet (first | (go_at_call 79; (with_reducible refine (cmp_Compare_uint64.calls a0_2 a1_2 t105 _ A53.out).mono ?_); rintro e w' ⟨rfl, ⟨nd, rfl⟩⟩; (try first | exact ⟨rfl, _, World.drewN_drewN _ _ _⟩ | exact ⟨rfl, _, Eq.trans (World.drewN_drewN _ _ _) (congrArg (World.drewN _) (Nat.add_assoc _ _ _))⟩))); try go_wp2_with (first | (go_at_call 79; (with_reducible refine (cmp_Compare_uint64.calls a0_2 a1_2 t105 _ A53.out).mono ?_); rintro e w' ⟨rfl, ⟨nd, rfl⟩⟩; (try first | exact ⟨rfl, _, World.drewN_drewN _ _ _⟩ | exact ⟨rfl, _, Eq.trans (World.drewN_drewN _ _ _) (congrArg (World.drewN _) (Nat.add_assoc _ _ _))⟩))))
          (try simp only [Exit.then, Exit.inBlock, Lab.gotos])
          go_ret
          exact ⟨by first | rfl | (simp [errW_none, errW_some] <;> rfl) | (simp [*, errW_none, errW_some] <;> rfl), bB⟩
        ·rw [if_neg c46] at H
         exact absurd H (by simp)
  ·rw [if_neg c4] at H
   have c4b0 : (a0_1 == a1_1) = false := beq_eq_false_iff_ne.mpr c4
   have c4b1 : (a0_1 != a1_1) = true := bne_iff_ne.mpr c4
   have H' := Aside0.mk H
   clear H
   go_enter Tryd.func58, Tryd.ntmps58
   go_wp2_with (first | ((with_reducible refine gate_dst (N := 2) rfl ?_); refine box_event ?hg (N := 2) ?hd (cs := #[.int .u64 a0_0, .int .u64 a0_1, .int .u64 a0_2]) (t := 67) ?hr ?_; (case hd => rfl); (case hg => rfl); (case hr => first | (go_simp; done) | (go_simp; rfl)); intro gb101 hg w61 hbox hb; have BK101 := Aside0.mk hbox; have GW101 := Aside0.mk ((by rw [hg]; exact (below_size bB) : w.heap.size ≤ gb101)); have GE101 := Aside0.mk ((by rw [hg]; exact (below_size bB) : w.heap.size ≤ gb101)); replace HB := aB HB hb; clear hb hbox hg) | ((with_reducible refine gate_dst (N := 3) rfl ?_); refine box_event ?hg (N := 3) ?hd (cs := #[.int .u64 a1_0, .int .u64 a1_1, .int .u64 a1_2]) (t := 67) ?hr ?_; (case hd => rfl); (case hg => rfl); (case hr => first | (go_simp; done) | (go_simp; rfl)); intro gb102 hg w62 hbox hb; have BK102 := Aside0.mk hbox; have GW102 := Aside0.mk ((by rw [hg]; exact (below_size bB) : w.heap.size ≤ gb102)); have GE102 := Aside0.mk ((by rw [hg]; exact (below_size bB) : w.heap.size ≤ gb102)); replace HB := aB HB hb; have NB101_102 := Aside0.mk ((by rw [hg]; exact Nat.ne_of_lt (blk_lt (g := gb101) (o := .cells #[.int .u64 a0_0, .int .u64 a0_1, .int .u64 a0_2] 67 (0, 0)) (aKw BK101)) : gb101 ≠ gb102)); have NB102_101 := Aside0.mk ((by rw [hg]; exact Nat.ne_of_gt (blk_lt (g := gb101) (o := .cells #[.int .u64 a0_0, .int .u64 a0_1, .int .u64 a0_2] 67 (0, 0)) (aKw BK101)) : gb102 ≠ gb101)); replace BK101 := aK BK101 hb; clear hb hbox hg; have hnb63 := NB101_102.out; have hnc63 := NB102_101.out; have hcz64_0 : w62.cell? ⟨gb101, 0, none⟩ = some (.int .u64 a0_0) := (blk_cell BK101.out 0).trans rfl; have hcz64_1 : w62.cell? ⟨gb101, 1, none⟩ = some (.int .u64 a0_1) := (blk_cell BK101.out 1).trans rfl; have hcz64_2 : w62.cell? ⟨gb101, 2, none⟩ = some (.int .u64 a0_2) := (blk_cell BK101.out 2).trans rfl; have hfz64_0 := blk_frozen BK101.out 0; have hfz64_1 := blk_frozen BK101.out 1; have hfz64_2 := blk_frozen BK101.out 2; have hcz65_0 : w62.cell? ⟨gb102, 0, none⟩ = some (.int .u64 a1_0) := (blk_cell BK102.out 0).trans rfl; have hcz65_1 : w62.cell? ⟨gb102, 1, none⟩ = some (.int .u64 a1_1) := (blk_cell BK102.out 1).trans rfl; have hcz65_2 : w62.cell? ⟨gb102, 2, none⟩ = some (.int .u64 a1_2) := (blk_cell BK102.out 2).trans rfl; have hfz65_0 := blk_frozen BK102.out 0; have hfz65_1 := blk_frozen BK102.out 1; have hfz65_2 := blk_frozen BK102.out 2) | ((with_reducible refine Lab.wp_scope_lab (Lab.scopeOf Tryd.f58) ?sc k ?_); (case sc => kernel_rfl)))
   repeat (go_quiet (first | ((with_reducible refine gate_dst (N := 2) rfl ?_); refine box_event ?hg (N := 2) ?hd (cs := #[.int .u64 a0_0, .int .u64 a0_1, .int .u64 a0_2]) (t := 67) ?hr ?_; (case hd => rfl); (case hg => rfl); (case hr => first | (go_simp; done) | (go_simp; rfl)); intro gb101 hg w61 hbox hb; have BK101 := Aside0.mk hbox; have GW101 := Aside0.mk ((by rw [hg]; exact (below_size bB) : w.heap.size ≤ gb101)); have GE101 := Aside0.mk ((by rw [hg]; exact (below_size bB) : w.heap.size ≤ gb101)); replace HB := aB HB hb; clear hb hbox hg) | ((with_reducible refine gate_dst (N := 3) rfl ?_); refine box_event ?hg (N := 3) ?hd (cs := #[.int .u64 a1_0, .int .u64 a1_1, .int .u64 a1_2]) (t := 67) ?hr ?_; (case hd => rfl); (case hg => rfl); (case hr => first | (go_simp; done) | (go_simp; rfl)); intro gb102 hg w62 hbox hb; have BK102 := Aside0.mk hbox; have GW102 := Aside0.mk ((by rw [hg]; exact (below_size bB) : w.heap.size ≤ gb102)); have GE102 := Aside0.mk ((by rw [hg]; exact (below_size bB) : w.heap.size ≤ gb102)); replace HB := aB HB hb; have NB101_102 := Aside0.mk ((by rw [hg]; exact Nat.ne_of_lt (blk_lt (g := gb101) (o := .cells #[.int .u64 a0_0, .int .u64 a0_1, .int .u64 a0_2] 67 (0, 0)) (aKw BK101)) : gb101 ≠ gb102)); have NB102_101 := Aside0.mk ((by rw [hg]; exact Nat.ne_of_gt (blk_lt (g := gb101) (o := .cells #[.int .u64 a0_0, .int .u64 a0_1, .int .u64 a0_2] 67 (0, 0)) (aKw BK101)) : gb102 ≠ gb101)); replace BK101 := aK BK101 hb; clear hb hbox hg; have hnb63 := NB101_102.out; have hnc63 := NB102_101.out; have hcz64_0 : w62.cell? ⟨gb101, 0, none⟩ = some (.int .u64 a0_0) := (blk_cell BK101.out 0).trans rfl; have hcz64_1 : w62.cell? ⟨gb101, 1, none⟩ = some (.int .u64 a0_1) := (blk_cell BK101.out 1).trans rfl; have hcz64_2 : w62.cell? ⟨gb101, 2, none⟩ = some (.int .u64 a0_2) := (blk_cell BK101.out 2).trans rfl; have hfz64_0 := blk_frozen BK101.out 0; have hfz64_1 := blk_frozen BK101.out 1; have hfz64_2 := blk_frozen BK101.out 2; have hcz65_0 : w62.cell? ⟨gb102, 0, none⟩ = some (.int .u64 a1_0) := (blk_cell BK102.out 0).trans rfl; have hcz65_1 : w62.cell? ⟨gb102, 1, none⟩ = some (.int .u64 a1_1) := (blk_cell BK102.out 1).trans rfl; have hcz65_2 : w62.cell? ⟨gb102, 2, none⟩ = some (.int .u64 a1_2) := (blk_cell BK102.out 2).trans rfl; have hfz65_0 := blk_frozen BK102.out 0; have hfz65_1 := blk_frozen BK102.out 1; have hfz65_2 := blk_frozen BK102.out 2) | ((with_reducible refine Lab.wp_scope_lab (Lab.scopeOf Tryd.f58) ?sc k ?_); (case sc => kernel_rfl))); try go_wp2_with (first | ((with_reducible refine gate_dst (N := 2) rfl ?_); refine box_event ?hg (N := 2) ?hd (cs := #[.int .u64 a0_0, .int .u64 a0_1, .int .u64 a0_2]) (t := 67) ?hr ?_; (case hd => rfl); (case hg => rfl); (case hr => first | (go_simp; done) | (go_simp; rfl)); intro gb101 hg w61 hbox hb; have BK101 := Aside0.mk hbox; have GW101 := Aside0.mk ((by rw [hg]; exact (below_size bB) : w.heap.size ≤ gb101)); have GE101 := Aside0.mk ((by rw [hg]; exact (below_size bB) : w.heap.size ≤ gb101)); replace HB := aB HB hb; clear hb hbox hg) | ((with_reducible refine gate_dst (N := 3) rfl ?_); refine box_event ?hg (N := 3) ?hd (cs := #[.int .u64 a1_0, .int .u64 a1_1, .int .u64 a1_2]) (t := 67) ?hr ?_; (case hd => rfl); (case hg => rfl); (case hr => first | (go_simp; done) | (go_simp; rfl)); intro gb102 hg w62 hbox hb; have BK102 := Aside0.mk hbox; have GW102 := Aside0.mk ((by rw [hg]; exact (below_size bB) : w.heap.size ≤ gb102)); have GE102 := Aside0.mk ((by rw [hg]; exact (below_size bB) : w.heap.size ≤ gb102)); replace HB := aB HB hb; have NB101_102 := Aside0.mk ((by rw [hg]; exact Nat.ne_of_lt (blk_lt (g := gb101) (o := .cells #[.int .u64 a0_0, .int .u64 a0_1, .int .u64 a0_2] 67 (0, 0)) (aKw BK101)) : gb101 ≠ gb102)); have NB102_101 := Aside0.mk ((by rw [hg]; exact Nat.ne_of_gt (blk_lt (g := gb101) (o := .cells #[.int .u64 a0_0, .int .u64 a0_1, .int .u64 a0_2] 67 (0, 0)) (aKw BK101)) : gb102 ≠ gb101)); replace BK101 := aK BK101 hb; clear hb hbox hg; have hnb63 := NB101_102.out; have hnc63 := NB102_101.out; have hcz64_0 : w62.cell? ⟨gb101, 0, none⟩ = some (.int .u64 a0_0) := (blk_cell BK101.out 0).trans rfl; have hcz64_1 : w62.cell? ⟨gb101, 1, none⟩ = some (.int .u64 a0_1) := (blk_cell BK101.out 1).trans rfl; have hcz64_2 : w62.cell? ⟨gb101, 2, none⟩ = some (.int .u64 a0_2) := (blk_cell BK101.out 2).trans rfl; have hfz64_0 := blk_frozen BK101.out 0; have hfz64_1 := blk_frozen BK101.out 1; have hfz64_2 := blk_frozen BK101.out 2; have hcz65_0 : w62.cell? ⟨gb102, 0, none⟩ = some (.int .u64 a1_0) := (blk_cell BK102.out 0).trans rfl; have hcz65_1 : w62.cell? ⟨gb102, 1, none⟩ = some (.int .u64 a1_1) := (blk_cell BK102.out 1).trans rfl; have hcz65_2 : w62.cell? ⟨gb102, 2, none⟩ = some (.int .u64 a1_2) := (blk_cell BK102.out 2).trans rfl; have hfz65_0 := blk_frozen BK102.out 0; have hfz65_1 := blk_frozen BK102.out 1; have hfz65_2 := blk_frozen BK102.out 2) | ((with_reducible refine Lab.wp_scope_lab (Lab.scopeOf Tryd.f58) ?sc k ?_); (case sc => kernel_rfl))))
   go_step3
   go_step
   (try go_step)
   refine Lab.wp_at_label (l := 0) (fun a0_ kq a_ w_ => ∃ u4 u5 u6 u7 u8 u9 u10 u11 u12 u13 u14 u15 u16 u17 u18 u19 u20 u21 u22 u23 u24 : Value, ((fun kq v5 w' => ∃ (x5_1 : Int), v5 = .int .i64 x5_1 ∧ Aside0 (prec_cores.l0 kq x5_1 a0_0 a0_1 a0_2 a1_0 a1_1 a1_2 = some r) ∧ Aside0 (kq ≤ k) ∧ Aside0 (w'.heap[gb101]? = some (.cells #[.int .u64 a0_0, .int .u64 a0_1, .int .u64 a0_2] 67 (0, 0))) ∧ Aside0 (w'.heap[gb102]? = some (.cells #[.int .u64 a1_0, .int .u64 a1_1, .int .u64 a1_2] 67 (0, 0))) ∧ Aside0 (Below w.heap.size w w')) kq u5 w_) ∧ a_ = (((((((((((((((((((((a0_.put (some 4) u4).put (some 5) u5).put (some 6) u6).put (some 7) u7).put (some 8) u8).put (some 9) u9).put (some 10) u10).put (some 11) u11).put (some 12) u12).put (some 13) u13).put (some 14) u14).put (some 15) u15).put (some 16) u16).put (some 17) u17).put (some 18) u18).put (some 19) u19).put (some 20) u20).put (some 21) u21).put (some 22) u22).put (some 23) u23).put (some 24) u24)) k ?fl (by first | omega | exact Nat.le_refl _) ?atStart ?round
   case fl => kernel_rfl
   case atStart =>
    (repeat apply Exists.intro)
    refine ⟨?rel, ?fr⟩
    case fr => (simp only [Act.put, List.setIfInBounds_toArray, List.set_cons_zero, List.set_cons_succ] <;> rfl)
    case rel => exact ⟨(0), bS, H', ⟨Nat.le_refl _⟩, ⟨aKw BK101⟩, ⟨aKw BK102⟩, ⟨bB⟩⟩
   case round =>
    intro gk a_ wr hle_ hinv HIH_0
    clear hle_
    obtain ⟨u4, u5, u6, u7, u8, u9, u10, u11, u12, u13, u14, u15, u16, u17, u18, u19, u20, u21, u22, u23, u24, hrel, rfl⟩ := hinv
    (try dsimp only at hrel)
    simp only [Act.put, List.setIfInBounds_toArray, List.set_cons_zero, List.set_cons_succ]
    clear H'
    try clear c1
    try clear p1
    try clear q1
    try clear c2
    try clear p2
    try clear q2
    try clear c3
    try clear c3b0
    try clear c3b1
    try clear p3
    try clear q3
    try clear c4
    try clear c4b0
    try clear c4b1
    try clear p4
    try clear q4
    try clear c5
    try clear c5b0
    try clear c5b1
    try clear p5
    try clear q5
    try clear c6
    try clear p6
    try clear q6
    try clear c8
    try clear c13
    try clear c16
    try clear c16b0
    try clear c16b1
    try clear c17
    try clear c17b0
    try clear c17b1
    try clear p18
    try clear q18
    try clear c19
    try clear p21
    try clear q21
    try clear p24
    try clear q24
    try clear c25
    try clear p27
    try clear q27
    try clear p29
    try clear q29
    try clear p30
    try clear q30
    try clear c31
    try clear c31b0
    try clear c31b1
    try clear c32
    try clear c32b0
    try clear c32b1
    try clear p33
    try clear q33
    try clear c34
    try clear p36
    try clear q36
    try clear p39
    try clear q39
    try clear c40
    try clear p42
    try clear q42
    try clear p44
    try clear q44
    try clear p45
    try clear q45
    try clear c46
    try clear c46b0
    try clear c46b1
    try clear c47
    try clear c47b0
    try clear c47b1
    try clear p48
    try clear q48
    try clear c49
    try clear p51
    try clear q51
    try clear p54
    try clear q54
    try clear c55
    try clear p57
    try clear q57
    try clear c58
    try clear p59
    try clear q59
    try clear p60
    try clear q60
    try clear c63
    try clear p64
    try clear hcz10_0
    try clear hcz10_1
    try clear hcz10_2
    try clear hcz14_0
    try clear hcz14_1
    try clear hcz14_2
    try clear hcz15_0
    try clear hcz15_1
    try clear hcz15_2
    try clear hcz20_0
    try clear hcz20_1
    try clear hcz20_2
    try clear hcz22_0
    try clear hcz22_1
    try clear hcz22_2
    try clear hcz26_0
    try clear hcz26_1
    try clear hcz26_2
    try clear hcz28_0
    try clear hcz28_1
    try clear hcz28_2
    try clear hcz35_0
    try clear hcz35_1
    try clear hcz35_2
    try clear hcz37_0
    try clear hcz37_1
    try clear hcz37_2
    try clear hcz41_0
    try clear hcz41_1
    try clear hcz41_2
    try clear hcz43_0
    try clear hcz43_1
    try clear hcz43_2
    try clear hcz50_0
    try clear hcz50_1
    try clear hcz50_2
    try clear hcz52_0
    try clear hcz52_1
    try clear hcz52_2
    try clear hcz56_0
    try clear hcz56_1
    try clear hcz56_2
    try clear hcz58_0
    try clear hcz58_1
    try clear hcz58_2
    try clear hcz64_0
    try clear hcz64_1
    try clear hcz64_2
    try clear hcz65_0
    try clear hcz65_1
    try clear hcz65_2
    try clear hcz9_0
    try clear hcz9_1
    try clear hcz9_2
    try clear hfz10_0
    try clear hfz10_1
    try clear hfz10_2
    try clear hfz14_0
    try clear hfz14_1
    try clear hfz14_2
    try clear hfz15_0
    try clear hfz15_1
    try clear hfz15_2
    try clear hfz20_0
    try clear hfz20_1
    try clear hfz20_2
    try clear hfz22_0
    try clear hfz22_1
    try clear hfz22_2
    try clear hfz26_0
    try clear hfz26_1
    try clear hfz26_2
    try clear hfz28_0
    try clear hfz28_1
    try clear hfz28_2
    try clear hfz35_0
    try clear hfz35_1
    try clear hfz35_2
    try clear hfz37_0
    try clear hfz37_1
    try clear hfz37_2
    try clear hfz41_0
    try clear hfz41_1
    try clear hfz41_2
    try clear hfz43_0
    try clear hfz43_1
    try clear hfz43_2
    try clear hfz50_0
    try clear hfz50_1
    try clear hfz50_2
    try clear hfz52_0
    try clear hfz52_1
    try clear hfz52_2
    try clear hfz56_0
    try clear hfz56_1
    try clear hfz56_2
    try clear hfz58_0
    try clear hfz58_1
    try clear hfz58_2
    try clear hfz64_0
    try clear hfz64_1
    try clear hfz64_2
    try clear hfz65_0
    try clear hfz65_1
    try clear hfz65_2
    try clear hfz9_0
    try clear hfz9_1
    try clear hfz9_2
    try clear p18
    try clear p2
    try clear p21
    try clear p24
    try clear p27
    try clear p29
    try clear p3
    try clear p30
    try clear p33
    try clear p36
    try clear p39
    try clear p42
    try clear p44
    try clear p45
    try clear p48
    try clear p51
    try clear p54
    try clear p57
    try clear p59
    try clear p6
    try clear p60
    try clear q18
    try clear q21
    try clear q24
    try clear q27
    try clear q29
    try clear q30
    try clear q33
    try clear q36
    try clear q39
    try clear q42
    try clear q44
    try clear q45
    try clear q48
    try clear q51
    try clear q54
    try clear q57
    try clear q59
    try clear q60
    obtain ⟨x5_1, rfl, HA, HK1, BK101, BK102, HB⟩ := hrel
    cases gk with
    | zero => exact absurd HA.out (by simp [prec_cores.l0])
    | succ k1 =>
     have H := HA.out
     clear HA
     simp only [prec_cores.l0] at H
     by_cases c66 : x5_1 = 0
     ·rw [if_pos c66] at H
      have c66b0 : (x5_1 == 0) = true := beq_iff_eq.mpr c66
      have c66b1 : (x5_1 != 0) = false := bne_eq_false_iff_eq.mpr c66
      clear c66
      by_cases c67 : a0_0 = a1_0
      ·rw [if_pos c67] at H
       have c67b0 : (a0_0 == a1_0) = true := beq_iff_eq.mpr c67
       have c67b1 : (a0_0 != a1_0) = false := bne_eq_false_iff_eq.mpr c67
       clear c67
       have H' := Aside0.mk H
       clear H
       have ix68 : (x5_1 : Int) = 0 := (by first | (with_reducible assumption) | assumption | exact eq_of_beq bA | omega)
       have p68 : (0 ≤ (x5_1 : Int)) = True := eq_true (by omega)
       have q68 : ((x5_1 : Int) < 3) = True := eq_true (by omega)
       have t68 : (x5_1 : Int).toNat = 0 := (by omega)
       clear ix68
       have hnb69 := NB101_102.out
       have hnc69 := NB102_101.out
       have hcz70_0 : wr.cell? ⟨gb101, 0, none⟩ = some (.int .u64 a0_0) := (blk_cell BK101.out 0).trans rfl
       have hcz70_1 : wr.cell? ⟨gb101, 1, none⟩ = some (.int .u64 a0_1) := (blk_cell BK101.out 1).trans rfl
       have hcz70_2 : wr.cell? ⟨gb101, 2, none⟩ = some (.int .u64 a0_2) := (blk_cell BK101.out 2).trans rfl
       have hfz70_0 := blk_frozen BK101.out 0
       have hfz70_1 := blk_frozen BK101.out 1
       have hfz70_2 := blk_frozen BK101.out 2
       have ix71 : (x5_1 : Int) = 0 := (by first | (with_reducible assumption) | assumption | exact eq_of_beq bA | omega)
       have p71 : (0 ≤ (x5_1 : Int)) = True := eq_true (by omega)
       have q71 : ((x5_1 : Int) < 3) = True := eq_true (by omega)
       have t71 : (x5_1 : Int).toNat = 0 := (by omega)
       clear ix71
       have hcz72_0 : wr.cell? ⟨gb102, 0, none⟩ = some (.int .u64 a1_0) := (blk_cell BK102.out 0).trans rfl
       have hcz72_1 : wr.cell? ⟨gb102, 1, none⟩ = some (.int .u64 a1_1) := (blk_cell BK102.out 1).trans rfl
       have hcz72_2 : wr.cell? ⟨gb102, 2, none⟩ = some (.int .u64 a1_2) := (blk_cell BK102.out 2).trans rfl
       have hfz72_0 := blk_frozen BK102.out 0
       have hfz72_1 := blk_frozen BK102.out 1
       have hfz72_2 := blk_frozen BK102.out 2
       go_wp2
       repeat (go_quiet (fail); try go_wp2)
       go_step3
       (try simp only [Exit.then, Exit.inBlock, Lab.gotos])
       refine Lab.again HIH_0 k1 ?lm1 ?lm2 ?lm3
       case lm1 => have := HK1.out; omega
       case lm2 => have := HK1.out; omega
       case lm3 =>
        (repeat apply Exists.intro)
        refine ⟨?rel, ?fr⟩
        case fr => (simp only [Act.put, List.setIfInBounds_toArray, List.set_cons_zero, List.set_cons_succ] <;> rfl)
        case rel => exact ⟨(wrap64 (x5_1 + 1)), bS, H', ⟨by have := HK1.out; omega⟩, ⟨aKw BK101⟩, ⟨aKw BK102⟩, ⟨bB⟩⟩
      ·rw [if_neg c67] at H
       have c67b0 : (a0_0 == a1_0) = false := beq_eq_false_iff_ne.mpr c67
       have c67b1 : (a0_0 != a1_0) = true := bne_iff_ne.mpr c67
       replace H := Option.bind_eq_some_iff.mp H
       obtain ⟨t103, A730, H⟩ := H
       replace H : (some t103) = some r := H
       have A73 := Aside0.mk A730
       clear A730
       obtain rfl := Option.some.inj H
       have ix74 : (x5_1 : Int) = 0 := (by first | (with_reducible assumption) | assumption | exact eq_of_beq bA | omega)
       have p74 : (0 ≤ (x5_1 : Int)) = True := eq_true (by omega)
       have q74 : ((x5_1 : Int) < 3) = True := eq_true (by omega)
       have t74 : (x5_1 : Int).toNat = 0 := (by omega)
       clear ix74
       have hnb75 := NB101_102.out
       have hnc75 := NB102_101.out
       have hcz76_0 : wr.cell? ⟨gb101, 0, none⟩ = some (.int .u64 a0_0) := (blk_cell BK101.out 0).trans rfl
       have hcz76_1 : wr.cell? ⟨gb101, 1, none⟩ = some (.int .u64 a0_1) := (blk_cell BK101.out 1).trans rfl
       have hcz76_2 : wr.cell? ⟨gb101, 2, none⟩ = some (.int .u64 a0_2) := (blk_cell BK101.out 2).trans rfl
       have hfz76_0 := blk_frozen BK101.out 0
       have hfz76_1 := blk_frozen BK101.out 1
       have hfz76_2 := blk_frozen BK101.out 2
       have ix77 : (x5_1 : Int) = 0 := (by first | (with_reducible assumption) | assumption | exact eq_of_beq bA | omega)
       have p77 : (0 ≤ (x5_1 : Int)) = True := eq_true (by omega)
       have q77 : ((x5_1 : Int) < 3) = True := eq_true (by omega)
       have t77 : (x5_1 : Int).toNat = 0 := (by omega)
       clear ix77
       have hcz78_0 : wr.cell? ⟨gb102, 0, none⟩ = some (.int .u64 a1_0) := (blk_cell BK102.out 0).trans rfl
       have hcz78_1 : wr.cell? ⟨gb102, 1, none⟩ = some (.int .u64 a1_1) := (blk_cell BK102.out 1).trans rfl
       have hcz78_2 : wr.cell? ⟨gb102, 2, none⟩ = some (.int .u64 a1_2) := (blk_cell BK102.out 2).trans rfl
       have hfz78_0 := blk_frozen BK102.out 0
       have hfz78_1 := blk_frozen BK102.out 1
       have hfz78_2 := blk_frozen BK102.out 2
       have ix79 : (x5_1 : Int) = 0 := (by first | (with_reducible assumption) | assumption | exact eq_of_beq bA | omega)
       have p79 : (0 ≤ (x5_1 : Int)) = True := eq_true (by omega)
       have q79 : ((x5_1 : Int) < 3) = True := eq_true (by omega)
       have t79 : (x5_1 : Int).toNat = 0 := (by omega)
       clear ix79
       have ix80 : (x5_1 : Int) = 0 := (by first | (with_reducible assumption) | assumption | exact eq_of_beq bA | omega)
       have p80 : (0 ≤ (x5_1 : Int)) = True := eq_true (by omega)
       have q80 : ((x5_1 : Int) < 3) = True := eq_true (by omega)
       have t80 : (x5_1 : Int).toNat = 0 := (by omega)
       clear ix80
       go_wp2_with (first | (go_at_call 79; (with_reducible refine (cmp_Compare_uint64.calls a0_0 a1_0 t103 _ A73.out).mono ?_); rintro e w' ⟨rfl, ⟨nd, rfl⟩⟩; (try first | exact ⟨rfl, _, World.drewN_drewN _ _ _⟩ | exact ⟨rfl, _, Eq.trans (World.drewN_drewN _ _ _) (congrArg (World.drewN _) (Nat.add_assoc _ _ _))⟩)))
       repeat (go_quiet (first | (go_at_call 79; (with_reducible refine (cmp_Compare_uint64.calls a0_0 a1_0 t103 _ A73.out).mono ?_); rintro e w' ⟨rfl, ⟨nd, rfl⟩⟩; (try first | exact ⟨rfl, _, World.drewN_drewN _ _ _⟩ | exact ⟨rfl, _, Eq.trans (World.drewN_drewN _ _ _) (congrArg (World.drewN _) (Nat.add_assoc _ _ _))⟩))); try go_wp2_with (first | (go_at_call 79; (with_reducible refine (cmp_Compare_uint64.calls a0_0 a1_0 t103 _ A73.out).mono ?_); rintro e w' ⟨rfl, ⟨nd, rfl⟩⟩; (try first | exact ⟨rfl, _, World.drewN_drewN _ _ _⟩ | exact ⟨rfl, _, Eq.trans (World.drewN_drewN _ _ _) (congrArg (World.drewN _) (Nat.add_assoc _ _ _))⟩))))
       (try simp only [Exit.then, Exit.inBlock, Lab.gotos])
       go_ret
       exact ⟨by first | rfl | (simp [errW_none, errW_some] <;> rfl) | (simp [*, errW_none, errW_some] <;> rfl), bB⟩
     ·rw [if_neg c66] at H
      have c66b0 : (x5_1 == 0) = false := beq_eq_false_iff_ne.mpr c66
      have c66b1 : (x5_1 != 0) = true := bne_iff_ne.mpr c66
      by_cases c81 : x5_1 = 1
      ·rw [if_pos c81] at H
       have c81b0 : (x5_1 == 1) = true := beq_iff_eq.mpr c81
       have c81b1 : (x5_1 != 1) = false := bne_eq_false_iff_eq.mpr c81
       clear c81
       by_cases c82 : a0_1 = a1_1
       ·rw [if_pos c82] at H
        have c82b0 : (a0_1 == a1_1) = true := beq_iff_eq.mpr c82
        have c82b1 : (a0_1 != a1_1) = false := bne_eq_false_iff_eq.mpr c82
        clear c82
        have H' := Aside0.mk H
        clear H
        have ix83 : (x5_1 : Int) = 1 := (by first | (with_reducible assumption) | assumption | exact eq_of_beq bA | omega)
        have p83 : (0 ≤ (x5_1 : Int)) = True := eq_true (by omega)
        have q83 : ((x5_1 : Int) < 3) = True := eq_true (by omega)
        have t83 : (x5_1 : Int).toNat = 1 := (by omega)
        clear ix83
        have hnb84 := NB101_102.out
        have hnc84 := NB102_101.out
        have hcz85_0 : wr.cell? ⟨gb101, 0, none⟩ = some (.int .u64 a0_0) := (blk_cell BK101.out 0).trans rfl
        have hcz85_1 : wr.cell? ⟨gb101, 1, none⟩ = some (.int .u64 a0_1) := (blk_cell BK101.out 1).trans rfl
        have hcz85_2 : wr.cell? ⟨gb101, 2, none⟩ = some (.int .u64 a0_2) := (blk_cell BK101.out 2).trans rfl
        have hfz85_0 := blk_frozen BK101.out 0
        have hfz85_1 := blk_frozen BK101.out 1
        have hfz85_2 := blk_frozen BK101.out 2
        have ix86 : (x5_1 : Int) = 1 := (by first | (with_reducible assumption) | assumption | exact eq_of_beq bA | omega)
        have p86 : (0 ≤ (x5_1 : Int)) = True := eq_true (by omega)
        have q86 : ((x5_1 : Int) < 3) = True := eq_true (by omega)
        have t86 : (x5_1 : Int).toNat = 1 := (by omega)
        clear ix86
        have hcz87_0 : wr.cell? ⟨gb102, 0, none⟩ = some (.int .u64 a1_0) := (blk_cell BK102.out 0).trans rfl
        have hcz87_1 : wr.cell? ⟨gb102, 1, none⟩ = some (.int .u64 a1_1) := (blk_cell BK102.out 1).trans rfl
        have hcz87_2 : wr.cell? ⟨gb102, 2, none⟩ = some (.int .u64 a1_2) := (blk_cell BK102.out 2).trans rfl
        have hfz87_0 := blk_frozen BK102.out 0
        have hfz87_1 := blk_frozen BK102.out 1
        have hfz87_2 := blk_frozen BK102.out 2
        go_wp2
        repeat (go_quiet (fail); try go_wp2)
        go_step3
        (try simp only [Exit.then, Exit.inBlock, Lab.gotos])
        refine Lab.again HIH_0 k1 ?lm1 ?lm2 ?lm3
        case lm1 => have := HK1.out; omega
        case lm2 => have := HK1.out; omega
        case lm3 =>
         (repeat apply Exists.intro)
         refine ⟨?rel, ?fr⟩
         case fr => (simp only [Act.put, List.setIfInBounds_toArray, List.set_cons_zero, List.set_cons_succ] <;> rfl)
         case rel => exact ⟨(wrap64 (x5_1 + 1)), bS, H', ⟨by have := HK1.out; omega⟩, ⟨aKw BK101⟩, ⟨aKw BK102⟩, ⟨bB⟩⟩
       ·rw [if_neg c82] at H
        have c82b0 : (a0_1 == a1_1) = false := beq_eq_false_iff_ne.mpr c82
        have c82b1 : (a0_1 != a1_1) = true := bne_iff_ne.mpr c82
        replace H := Option.bind_eq_some_iff.mp H
        obtain ⟨t104, A880, H⟩ := H
        replace H : (some t104) = some r := H
        have A88 := Aside0.mk A880
        clear A880
        obtain rfl := Option.some.inj H
        have ix89 : (x5_1 : Int) = 1 := (by first | (with_reducible assumption) | assumption | exact eq_of_beq bA | omega)
        have p89 : (0 ≤ (x5_1 : Int)) = True := eq_true (by omega)
        have q89 : ((x5_1 : Int) < 3) = True := eq_true (by omega)
        have t89 : (x5_1 : Int).toNat = 1 := (by omega)
        clear ix89
        have hnb90 := NB101_102.out
        have hnc90 := NB102_101.out
        have hcz91_0 : wr.cell? ⟨gb101, 0, none⟩ = some (.int .u64 a0_0) := (blk_cell BK101.out 0).trans rfl
        have hcz91_1 : wr.cell? ⟨gb101, 1, none⟩ = some (.int .u64 a0_1) := (blk_cell BK101.out 1).trans rfl
        have hcz91_2 : wr.cell? ⟨gb101, 2, none⟩ = some (.int .u64 a0_2) := (blk_cell BK101.out 2).trans rfl
        have hfz91_0 := blk_frozen BK101.out 0
        have hfz91_1 := blk_frozen BK101.out 1
        have hfz91_2 := blk_frozen BK101.out 2
        have ix92 : (x5_1 : Int) = 1 := (by first | (with_reducible assumption) | assumption | exact eq_of_beq bA | omega)
        have p92 : (0 ≤ (x5_1 : Int)) = True := eq_true (by omega)
        have q92 : ((x5_1 : Int) < 3) = True := eq_true (by omega)
        have t92 : (x5_1 : Int).toNat = 1 := (by omega)
        clear ix92
        have hcz93_0 : wr.cell? ⟨gb102, 0, none⟩ = some (.int .u64 a1_0) := (blk_cell BK102.out 0).trans rfl
        have hcz93_1 : wr.cell? ⟨gb102, 1, none⟩ = some (.int .u64 a1_1) := (blk_cell BK102.out 1).trans rfl
        have hcz93_2 : wr.cell? ⟨gb102, 2, none⟩ = some (.int .u64 a1_2) := (blk_cell BK102.out 2).trans rfl
        have hfz93_0 := blk_frozen BK102.out 0
        have hfz93_1 := blk_frozen BK102.out 1
        have hfz93_2 := blk_frozen BK102.out 2
        have ix94 : (x5_1 : Int) = 1 := (by first | (with_reducible assumption) | assumption | exact eq_of_beq bA | omega)
        have p94 : (0 ≤ (x5_1 : Int)) = True := eq_true (by omega)
        have q94 : ((x5_1 : Int) < 3) = True := eq_true (by omega)
        have t94 : (x5_1 : Int).toNat = 1 := (by omega)
        clear ix94
        have ix95 : (x5_1 : Int) = 1 := (by first | (with_reducible assumption) | assumption | exact eq_of_beq bA | omega)
        have p95 : (0 ≤ (x5_1 : Int)) = True := eq_true (by omega)
        have q95 : ((x5_1 : Int) < 3) = True := eq_true (by omega)
        have t95 : (x5_1 : Int).toNat = 1 := (by omega)
        clear ix95
        go_wp2_with (first | (go_at_call 79; (with_reducible refine (cmp_Compare_uint64.calls a0_1 a1_1 t104 _ A88.out).mono ?_); rintro e w' ⟨rfl, ⟨nd, rfl⟩⟩; (try first | exact ⟨rfl, _, World.drewN_drewN _ _ _⟩ | exact ⟨rfl, _, Eq.trans (World.drewN_drewN _ _ _) (congrArg (World.drewN _) (Nat.add_assoc _ _ _))⟩)))
        repeat (go_quiet (first | (go_at_call 79; (with_reducible refine (cmp_Compare_uint64.calls a0_1 a1_1 t104 _ A88.out).mono ?_); rintro e w' ⟨rfl, ⟨nd, rfl⟩⟩; (try first | exact ⟨rfl, _, World.drewN_drewN _ _ _⟩ | exact ⟨rfl, _, Eq.trans (World.drewN_drewN _ _ _) (congrArg (World.drewN _) (Nat.add_assoc _ _ _))⟩))); try go_wp2_with (first | (go_at_call 79; (with_reducible refine (cmp_Compare_uint64.calls a0_1 a1_1 t104 _ A88.out).mono ?_); rintro e w' ⟨rfl, ⟨nd, rfl⟩⟩; (try first | exact ⟨rfl, _, World.drewN_drewN _ _ _⟩ | exact ⟨rfl, _, Eq.trans (World.drewN_drewN _ _ _) (congrArg (World.drewN _) (Nat.add_assoc _ _ _))⟩))))
        (try simp only [Exit.then, Exit.inBlock, Lab.gotos])
        go_ret
        exact ⟨by first | rfl | (simp [errW_none, errW_some] <;> rfl) | (simp [*, errW_none, errW_some] <;> rfl), bB⟩
      ·rw [if_neg c81] at H
       have c81b0 : (x5_1 == 1) = false := beq_eq_false_iff_ne.mpr c81
       have c81b1 : (x5_1 != 1) = true := bne_iff_ne.mpr c81
       by_cases c96 : x5_1 = 2
       ·rw [if_pos c96] at H
        have c96b0 : (x5_1 == 2) = true := beq_iff_eq.mpr c96
        have c96b1 : (x5_1 != 2) = false := bne_eq_false_iff_eq.mpr c96
        clear c96
        by_cases c97 : a0_2 = a1_2
        ·rw [if_pos c97] at H
         have c97b0 : (a0_2 == a1_2) = true := beq_iff_eq.mpr c97
         have c97b1 : (a0_2 != a1_2) = false := bne_eq_false_iff_eq.mpr c97
         clear c97
         have H' := Aside0.mk H
         clear H
         have ix98 : (x5_1 : Int) = 2 := (by first | (with_reducible assumption) | assumption | exact eq_of_beq bA | omega)
         have p98 : (0 ≤ (x5_1 : Int)) = True := eq_true (by omega)
         have q98 : ((x5_1 : Int) < 3) = True := eq_true (by omega)
         have t98 : (x5_1 : Int).toNat = 2 := (by omega)
         clear ix98
         have hnb99 := NB101_102.out
         have hnc99 := NB102_101.out
         have hcz100_0 : wr.cell? ⟨gb101, 0, none⟩ = some (.int .u64 a0_0) := (blk_cell BK101.out 0).trans rfl
         have hcz100_1 : wr.cell? ⟨gb101, 1, none⟩ = some (.int .u64 a0_1) := (blk_cell BK101.out 1).trans rfl
         have hcz100_2 : wr.cell? ⟨gb101, 2, none⟩ = some (.int .u64 a0_2) := (blk_cell BK101.out 2).trans rfl
         have hfz100_0 := blk_frozen BK101.out 0
         have hfz100_1 := blk_frozen BK101.out 1
         have hfz100_2 := blk_frozen BK101.out 2
         have ix101 : (x5_1 : Int) = 2 := (by first | (with_reducible assumption) | assumption | exact eq_of_beq bA | omega)
         have p101 : (0 ≤ (x5_1 : Int)) = True := eq_true (by omega)
         have q101 : ((x5_1 : Int) < 3) = True := eq_true (by omega)
         have t101 : (x5_1 : Int).toNat = 2 := (by omega)
         clear ix101
         have hcz102_0 : wr.cell? ⟨gb102, 0, none⟩ = some (.int .u64 a1_0) := (blk_cell BK102.out 0).trans rfl
         have hcz102_1 : wr.cell? ⟨gb102, 1, none⟩ = some (.int .u64 a1_1) := (blk_cell BK102.out 1).trans rfl
         have hcz102_2 : wr.cell? ⟨gb102, 2, none⟩ = some (.int .u64 a1_2) := (blk_cell BK102.out 2).trans rfl
         have hfz102_0 := blk_frozen BK102.out 0
         have hfz102_1 := blk_frozen BK102.out 1
         have hfz102_2 := blk_frozen BK102.out 2
         go_wp2
         repeat (go_quiet (fail); try go_wp2)
         go_step3
         (try simp only [Exit.then, Exit.inBlock, Lab.gotos])
         refine Lab.again HIH_0 k1 ?lm1 ?lm2 ?lm3
         case lm1 => have := HK1.out; omega
         case lm2 => have := HK1.out; omega
         case lm3 =>
          (repeat apply Exists.intro)
          refine ⟨?rel, ?fr⟩
          case fr => (simp only [Act.put, List.setIfInBounds_toArray, List.set_cons_zero, List.set_cons_succ] <;> rfl)
          case rel => exact ⟨(wrap64 (x5_1 + 1)), bS, H', ⟨by have := HK1.out; omega⟩, ⟨aKw BK101⟩, ⟨aKw BK102⟩, ⟨bB⟩⟩
        ·rw [if_neg c97] at H
         have c97b0 : (a0_2 == a1_2) = false := beq_eq_false_iff_ne.mpr c97
         have c97b1 : (a0_2 != a1_2) = true := bne_iff_ne.mpr c97
         replace H := Option.bind_eq_some_iff.mp H
         obtain ⟨t105, A1030, H⟩ := H
         replace H : (some t105) = some r := H
         have A103 := Aside0.mk A1030
         clear A1030
         obtain rfl := Option.some.inj H
         have ix104 : (x5_1 : Int) = 2 := (by first | (with_reducible assumption) | assumption | exact eq_of_beq bA | omega)
         have p104 : (0 ≤ (x5_1 : Int)) = True := eq_true (by omega)
         have q104 : ((x5_1 : Int) < 3) = True := eq_true (by omega)
         have t104 : (x5_1 : Int).toNat = 2 := (by omega)
         clear ix104
         have hnb105 := NB101_102.out
         have hnc105 := NB102_101.out
         have hcz106_0 : wr.cell? ⟨gb101, 0, none⟩ = some (.int .u64 a0_0) := (blk_cell BK101.out 0).trans rfl
         have hcz106_1 : wr.cell? ⟨gb101, 1, none⟩ = some (.int .u64 a0_1) := (blk_cell BK101.out 1).trans rfl
         have hcz106_2 : wr.cell? ⟨gb101, 2, none⟩ = some (.int .u64 a0_2) := (blk_cell BK101.out 2).trans rfl
         have hfz106_0 := blk_frozen BK101.out 0
         have hfz106_1 := blk_frozen BK101.out 1
         have hfz106_2 := blk_frozen BK101.out 2
         have ix107 : (x5_1 : Int) = 2 := (by first | (with_reducible assumption) | assumption | exact eq_of_beq bA | omega)
         have p107 : (0 ≤ (x5_1 : Int)) = True := eq_true (by omega)
         have q107 : ((x5_1 : Int) < 3) = True := eq_true (by omega)
         have t107 : (x5_1 : Int).toNat = 2 := (by omega)
         clear ix107
         have hcz108_0 : wr.cell? ⟨gb102, 0, none⟩ = some (.int .u64 a1_0) := (blk_cell BK102.out 0).trans rfl
         have hcz108_1 : wr.cell? ⟨gb102, 1, none⟩ = some (.int .u64 a1_1) := (blk_cell BK102.out 1).trans rfl
         have hcz108_2 : wr.cell? ⟨gb102, 2, none⟩ = some (.int .u64 a1_2) := (blk_cell BK102.out 2).trans rfl
         have hfz108_0 := blk_frozen BK102.out 0
         have hfz108_1 := blk_frozen BK102.out 1
         have hfz108_2 := blk_frozen BK102.out 2
         have ix109 : (x5_1 : Int) = 2 := (by first | (with_reducible assumption) | assumption | exact eq_of_beq bA | omega)
         have p109 : (0 ≤ (x5_1 : Int)) = True := eq_true (by omega)
         have q109 : ((x5_1 : Int) < 3) = True := eq_true (by omega)
         have t109 : (x5_1 : Int).toNat = 2 := (by omega)
         clear ix109
         have ix110 : (x5_1 : Int) = 2 := (by first | (with_reducible assumption) | assumption | exact eq_of_beq bA | omega)
         have p110 : (0 ≤ (x5_1 : Int)) = True := eq_true (by omega)
         have q110 : ((x5_1 : Int) < 3) = True := eq_true (by omega)
         have t110 : (x5_1 : Int).toNat = 2 := (by omega)
         clear ix110
         go_wp2_with (first | (go_at_call 79; (with_reducible refine (cmp_Compare_uint64.calls a0_2 a1_2 t105 _ A103.out).mono ?_); rintro e w' ⟨rfl, ⟨nd, rfl⟩⟩; (try first | exact ⟨rfl, _, World.drewN_drewN _ _ _⟩ | exact ⟨rfl, _, Eq.trans (World.drewN_drewN _ _ _) (congrArg (World.drewN _) (Nat.add_assoc _ _ _))⟩)))
         repeat (go_quiet (first | (go_at_call 79; (with_reducible refine (cmp_Compare_uint64.calls a0_2 a1_2 t105 _ A103.out).mono ?_); rintro e w' ⟨rfl, ⟨nd, rfl⟩⟩; (try first | exact ⟨rfl, _, World.drewN_drewN _ _ _⟩ | exact ⟨rfl, _, Eq.trans (World.drewN_drewN _ _ _) (congrArg (World.drewN _) (Nat.add_assoc _ _ _))⟩))); try go_wp2_with (first | (go_at_call 79; (with_reducible refine (cmp_Compare_uint64.calls a0_2 a1_2 t105 _ A103.out).mono ?_); rintro e w' ⟨rfl, ⟨nd, rfl⟩⟩; (try first | exact ⟨rfl, _, World.drewN_drewN _ _ _⟩ | exact ⟨rfl, _, Eq.trans (World.drewN_drewN _ _ _) (congrArg (World.drewN _) (Nat.add_assoc _ _ _))⟩))))
         (try simp only [Exit.then, Exit.inBlock, Lab.gotos])
         go_ret
         exact ⟨by first | rfl | (simp [errW_none, errW_some] <;> rfl) | (simp [*, errW_none, errW_some] <;> rfl), bB⟩
       ·rw [if_neg c96] at H
        exact absurd H (by simp)
 ·rw [if_neg c3] at H
  have c3b0 : (a0_0 == a1_0) = false := beq_eq_false_iff_ne.mpr c3
  have c3b1 : (a0_0 != a1_0) = true := bne_iff_ne.mpr c3
  have H' := Aside0.mk H
  clear H
  go_enter Tryd.func58, Tryd.ntmps58
  go_wp2_with (first | ((with_reducible refine gate_dst (N := 2) rfl ?_); refine box_event ?hg (N := 2) ?hd (cs := #[.int .u64 a0_0, .int .u64 a0_1, .int .u64 a0_2]) (t := 67) ?hr ?_; (case hd => rfl); (case hg => rfl); (case hr => first | (go_simp; done) | (go_simp; rfl)); intro gb101 hg w111 hbox hb; have BK101 := Aside0.mk hbox; have GW101 := Aside0.mk ((by rw [hg]; exact (below_size bB) : w.heap.size ≤ gb101)); have GE101 := Aside0.mk ((by rw [hg]; exact (below_size bB) : w.heap.size ≤ gb101)); replace HB := aB HB hb; clear hb hbox hg) | ((with_reducible refine gate_dst (N := 3) rfl ?_); refine box_event ?hg (N := 3) ?hd (cs := #[.int .u64 a1_0, .int .u64 a1_1, .int .u64 a1_2]) (t := 67) ?hr ?_; (case hd => rfl); (case hg => rfl); (case hr => first | (go_simp; done) | (go_simp; rfl)); intro gb102 hg w112 hbox hb; have BK102 := Aside0.mk hbox; have GW102 := Aside0.mk ((by rw [hg]; exact (below_size bB) : w.heap.size ≤ gb102)); have GE102 := Aside0.mk ((by rw [hg]; exact (below_size bB) : w.heap.size ≤ gb102)); replace HB := aB HB hb; have NB101_102 := Aside0.mk ((by rw [hg]; exact Nat.ne_of_lt (blk_lt (g := gb101) (o := .cells #[.int .u64 a0_0, .int .u64 a0_1, .int .u64 a0_2] 67 (0, 0)) (aKw BK101)) : gb101 ≠ gb102)); have NB102_101 := Aside0.mk ((by rw [hg]; exact Nat.ne_of_gt (blk_lt (g := gb101) (o := .cells #[.int .u64 a0_0, .int .u64 a0_1, .int .u64 a0_2] 67 (0, 0)) (aKw BK101)) : gb102 ≠ gb101)); replace BK101 := aK BK101 hb; clear hb hbox hg; have hnb113 := NB101_102.out; have hnc113 := NB102_101.out; have hcz114_0 : w112.cell? ⟨gb101, 0, none⟩ = some (.int .u64 a0_0) := (blk_cell BK101.out 0).trans rfl; have hcz114_1 : w112.cell? ⟨gb101, 1, none⟩ = some (.int .u64 a0_1) := (blk_cell BK101.out 1).trans rfl; have hcz114_2 : w112.cell? ⟨gb101, 2, none⟩ = some (.int .u64 a0_2) := (blk_cell BK101.out 2).trans rfl; have hfz114_0 := blk_frozen BK101.out 0; have hfz114_1 := blk_frozen BK101.out 1; have hfz114_2 := blk_frozen BK101.out 2; have hcz115_0 : w112.cell? ⟨gb102, 0, none⟩ = some (.int .u64 a1_0) := (blk_cell BK102.out 0).trans rfl; have hcz115_1 : w112.cell? ⟨gb102, 1, none⟩ = some (.int .u64 a1_1) := (blk_cell BK102.out 1).trans rfl; have hcz115_2 : w112.cell? ⟨gb102, 2, none⟩ = some (.int .u64 a1_2) := (blk_cell BK102.out 2).trans rfl; have hfz115_0 := blk_frozen BK102.out 0; have hfz115_1 := blk_frozen BK102.out 1; have hfz115_2 := blk_frozen BK102.out 2) | ((with_reducible refine Lab.wp_scope_lab (Lab.scopeOf Tryd.f58) ?sc k ?_); (case sc => kernel_rfl)))
  repeat (go_quiet (first | ((with_reducible refine gate_dst (N := 2) rfl ?_); refine box_event ?hg (N := 2) ?hd (cs := #[.int .u64 a0_0, .int .u64 a0_1, .int .u64 a0_2]) (t := 67) ?hr ?_; (case hd => rfl); (case hg => rfl); (case hr => first | (go_simp; done) | (go_simp; rfl)); intro gb101 hg w111 hbox hb; have BK101 := Aside0.mk hbox; have GW101 := Aside0.mk ((by rw [hg]; exact (below_size bB) : w.heap.size ≤ gb101)); have GE101 := Aside0.mk ((by rw [hg]; exact (below_size bB) : w.heap.size ≤ gb101)); replace HB := aB HB hb; clear hb hbox hg) | ((with_reducible refine gate_dst (N := 3) rfl ?_); refine box_event ?hg (N := 3) ?hd (cs := #[.int .u64 a1_0, .int .u64 a1_1, .int .u64 a1_2]) (t := 67) ?hr ?_; (case hd => rfl); (case hg => rfl); (case hr => first | (go_simp; done) | (go_simp; rfl)); intro gb102 hg w112 hbox hb; have BK102 := Aside0.mk hbox; have GW102 := Aside0.mk ((by rw [hg]; exact (below_size bB) : w.heap.size ≤ gb102)); have GE102 := Aside0.mk ((by rw [hg]; exact (below_size bB) : w.heap.size ≤ gb102)); replace HB := aB HB hb; have NB101_102 := Aside0.mk ((by rw [hg]; exact Nat.ne_of_lt (blk_lt (g := gb101) (o := .cells #[.int .u64 a0_0, .int .u64 a0_1, .int .u64 a0_2] 67 (0, 0)) (aKw BK101)) : gb101 ≠ gb102)); have NB102_101 := Aside0.mk ((by rw [hg]; exact Nat.ne_of_gt (blk_lt (g := gb101) (o := .cells #[.int .u64 a0_0, .int .u64 a0_1, .int .u64 a0_2] 67 (0, 0)) (aKw BK101)) : gb102 ≠ gb101)); replace BK101 := aK BK101 hb; clear hb hbox hg; have hnb113 := NB101_102.out; have hnc113 := NB102_101.out; have hcz114_0 : w112.cell? ⟨gb101, 0, none⟩ = some (.int .u64 a0_0) := (blk_cell BK101.out 0).trans rfl; have hcz114_1 : w112.cell? ⟨gb101, 1, none⟩ = some (.int .u64 a0_1) := (blk_cell BK101.out 1).trans rfl; have hcz114_2 : w112.cell? ⟨gb101, 2, none⟩ = some (.int .u64 a0_2) := (blk_cell BK101.out 2).trans rfl; have hfz114_0 := blk_frozen BK101.out 0; have hfz114_1 := blk_frozen BK101.out 1; have hfz114_2 := blk_frozen BK101.out 2; have hcz115_0 : w112.cell? ⟨gb102, 0, none⟩ = some (.int .u64 a1_0) := (blk_cell BK102.out 0).trans rfl; have hcz115_1 : w112.cell? ⟨gb102, 1, none⟩ = some (.int .u64 a1_1) := (blk_cell BK102.out 1).trans rfl; have hcz115_2 : w112.cell? ⟨gb102, 2, none⟩ = some (.int .u64 a1_2) := (blk_cell BK102.out 2).trans rfl; have hfz115_0 := blk_frozen BK102.out 0; have hfz115_1 := blk_frozen BK102.out 1; have hfz115_2 := blk_frozen BK102.out 2) | ((with_reducible refine Lab.wp_scope_lab (Lab.scopeOf Tryd.f58) ?sc k ?_); (case sc => kernel_rfl))); try go_wp2_with (first | ((with_reducible refine gate_dst (N := 2) rfl ?_); refine box_event ?hg (N := 2) ?hd (cs := #[.int .u64 a0_0, .int .u64 a0_1, .int .u64 a0_2]) (t := 67) ?hr ?_; (case hd => rfl); (case hg => rfl); (case hr => first | (go_simp; done) | (go_simp; rfl)); intro gb101 hg w111 hbox hb; have BK101 := Aside0.mk hbox; have GW101 := Aside0.mk ((by rw [hg]; exact (below_size bB) : w.heap.size ≤ gb101)); have GE101 := Aside0.mk ((by rw [hg]; exact (below_size bB) : w.heap.size ≤ gb101)); replace HB := aB HB hb; clear hb hbox hg) | ((with_reducible refine gate_dst (N := 3) rfl ?_); refine box_event ?hg (N := 3) ?hd (cs := #[.int .u64 a1_0, .int .u64 a1_1, .int .u64 a1_2]) (t := 67) ?hr ?_; (case hd => rfl); (case hg => rfl); (case hr => first | (go_simp; done) | (go_simp; rfl)); intro gb102 hg w112 hbox hb; have BK102 := Aside0.mk hbox; have GW102 := Aside0.mk ((by rw [hg]; exact (below_size bB) : w.heap.size ≤ gb102)); have GE102 := Aside0.mk ((by rw [hg]; exact (below_size bB) : w.heap.size ≤ gb102)); replace HB := aB HB hb; have NB101_102 := Aside0.mk ((by rw [hg]; exact Nat.ne_of_lt (blk_lt (g := gb101) (o := .cells #[.int .u64 a0_0, .int .u64 a0_1, .int .u64 a0_2] 67 (0, 0)) (aKw BK101)) : gb101 ≠ gb102)); have NB102_101 := Aside0.mk ((by rw [hg]; exact Nat.ne_of_gt (blk_lt (g := gb101) (o := .cells #[.int .u64 a0_0, .int .u64 a0_1, .int .u64 a0_2] 67 (0, 0)) (aKw BK101)) : gb102 ≠ gb101)); replace BK101 := aK BK101 hb; clear hb hbox hg; have hnb113 := NB101_102.out; have hnc113 := NB102_101.out; have hcz114_0 : w112.cell? ⟨gb101, 0, none⟩ = some (.int .u64 a0_0) := (blk_cell BK101.out 0).trans rfl; have hcz114_1 : w112.cell? ⟨gb101, 1, none⟩ = some (.int .u64 a0_1) := (blk_cell BK101.out 1).trans rfl; have hcz114_2 : w112.cell? ⟨gb101, 2, none⟩ = some (.int .u64 a0_2) := (blk_cell BK101.out 2).trans rfl; have hfz114_0 := blk_frozen BK101.out 0; have hfz114_1 := blk_frozen BK101.out 1; have hfz114_2 := blk_frozen BK101.out 2; have hcz115_0 : w112.cell? ⟨gb102, 0, none⟩ = some (.int .u64 a1_0) := (blk_cell BK102.out 0).trans rfl; have hcz115_1 : w112.cell? ⟨gb102, 1, none⟩ = some (.int .u64 a1_1) := (blk_cell BK102.out 1).trans rfl; have hcz115_2 : w112.cell? ⟨gb102, 2, none⟩ = some (.int .u64 a1_2) := (blk_cell BK102.out 2).trans rfl; have hfz115_0 := blk_frozen BK102.out 0; have hfz115_1 := blk_frozen BK102.out 1; have hfz115_2 := blk_frozen BK102.out 2) | ((with_reducible refine Lab.wp_scope_lab (Lab.scopeOf Tryd.f58) ?sc k ?_); (case sc => kernel_rfl))))
  go_step3
  go_step
  (try go_step)
  refine Lab.wp_at_label (l := 0) (fun a0_ kq a_ w_ => ∃ u4 u5 u6 u7 u8 u9 u10 u11 u12 u13 u14 u15 u16 u17 u18 u19 u20 u21 u22 u23 u24 : Value, ((fun kq v5 w' => ∃ (x5_1 : Int), v5 = .int .i64 x5_1 ∧ Aside0 (prec_cores.l0 kq x5_1 a0_0 a0_1 a0_2 a1_0 a1_1 a1_2 = some r) ∧ Aside0 (kq ≤ k) ∧ Aside0 (w'.heap[gb101]? = some (.cells #[.int .u64 a0_0, .int .u64 a0_1, .int .u64 a0_2] 67 (0, 0))) ∧ Aside0 (w'.heap[gb102]? = some (.cells #[.int .u64 a1_0, .int .u64 a1_1, .int .u64 a1_2] 67 (0, 0))) ∧ Aside0 (Below w.heap.size w w')) kq u5 w_) ∧ a_ = (((((((((((((((((((((a0_.put (some 4) u4).put (some 5) u5).put (some 6) u6).put (some 7) u7).put (some 8) u8).put (some 9) u9).put (some 10) u10).put (some 11) u11).put (some 12) u12).put (some 13) u13).put (some 14) u14).put (some 15) u15).put (some 16) u16).put (some 17) u17).put (some 18) u18).put (some 19) u19).put (some 20) u20).put (some 21) u21).put (some 22) u22).put (some 23) u23).put (some 24) u24)) k ?fl (by first | omega | exact Nat.le_refl _) ?atStart ?round
  case fl => kernel_rfl
  case atStart =>
   (repeat apply Exists.intro)
   refine ⟨?rel, ?fr⟩
   case fr => (simp only [Act.put, List.setIfInBounds_toArray, List.set_cons_zero, List.set_cons_succ] <;> rfl)
   case rel => exact ⟨(0), bS, H', ⟨Nat.le_refl _⟩, ⟨aKw BK101⟩, ⟨aKw BK102⟩, ⟨bB⟩⟩
  case round =>
   intro gk a_ wr hle_ hinv HIH_0
   clear hle_
   obtain ⟨u4, u5, u6, u7, u8, u9, u10, u11, u12, u13, u14, u15, u16, u17, u18, u19, u20, u21, u22, u23, u24, hrel, rfl⟩ := hinv
   (try dsimp only at hrel)
   simp only [Act.put, List.setIfInBounds_toArray, List.set_cons_zero, List.set_cons_succ]
   clear H'
   try clear c1
   try clear p1
   try clear q1
   try clear c2
   try clear p2
   try clear q2
   try clear c3
   try clear c3b0
   try clear c3b1
   try clear p3
   try clear q3
   try clear c4
   try clear c4b0
   try clear c4b1
   try clear p4
   try clear q4
   try clear c5
   try clear c5b0
   try clear c5b1
   try clear p5
   try clear q5
   try clear c6
   try clear p6
   try clear q6
   try clear c7
   try clear p7
   try clear q7
   try clear c8
   try clear p8
   try clear q8
   try clear c9
   try clear p9
   try clear q9
   try clear c10
   try clear p10
   try clear q10
   try clear c11
   try clear p11
   try clear q11
   try clear c13
   try clear c16
   try clear c16b0
   try clear c16b1
   try clear c17
   try clear c17b0
   try clear c17b1
   try clear p18
   try clear q18
   try clear c19
   try clear p21
   try clear q21
   try clear p24
   try clear q24
   try clear c25
   try clear p27
   try clear q27
   try clear p29
   try clear q29
   try clear p30
   try clear q30
   try clear c31
   try clear c31b0
   try clear c31b1
   try clear c32
   try clear c32b0
   try clear c32b1
   try clear p33
   try clear q33
   try clear c34
   try clear p36
   try clear q36
   try clear p39
   try clear q39
   try clear c40
   try clear p42
   try clear q42
   try clear p44
   try clear q44
   try clear p45
   try clear q45
   try clear c46
   try clear c46b0
   try clear c46b1
   try clear c47
   try clear c47b0
   try clear c47b1
   try clear p48
   try clear q48
   try clear c49
   try clear p51
   try clear q51
   try clear p54
   try clear q54
   try clear c55
   try clear p57
   try clear q57
   try clear c58
   try clear p59
   try clear q59
   try clear p60
   try clear q60
   try clear c63
   try clear p64
   try clear c66
   try clear c66b0
   try clear c66b1
   try clear c67
   try clear c67b0
   try clear c67b1
   try clear p68
   try clear q68
   try clear c69
   try clear p71
   try clear q71
   try clear p74
   try clear q74
   try clear c75
   try clear p77
   try clear q77
   try clear p79
   try clear q79
   try clear p80
   try clear q80
   try clear c81
   try clear c81b0
   try clear c81b1
   try clear c82
   try clear c82b0
   try clear c82b1
   try clear p83
   try clear q83
   try clear c84
   try clear p86
   try clear q86
   try clear p89
   try clear q89
   try clear c90
   try clear p92
   try clear q92
   try clear p94
   try clear q94
   try clear p95
   try clear q95
   try clear c96
   try clear c96b0
   try clear c96b1
   try clear c97
   try clear c97b0
   try clear c97b1
   try clear p98
   try clear q98
   try clear c99
   try clear p101
   try clear q101
   try clear p104
   try clear q104
   try clear c105
   try clear p107
   try clear q107
   try clear p109
   try clear q109
   try clear p110
   try clear q110
   try clear c113
   try clear hcz100_0
   try clear hcz100_1
   try clear hcz100_2
   try clear hcz102_0
   try clear hcz102_1
   try clear hcz102_2
   try clear hcz106_0
   try clear hcz106_1
   try clear hcz106_2
   try clear hcz108_0
   try clear hcz108_1
   try clear hcz108_2
   try clear hcz10_0
   try clear hcz10_1
   try clear hcz10_2
   try clear hcz114_0
   try clear hcz114_1
   try clear hcz114_2
   try clear hcz115_0
   try clear hcz115_1
   try clear hcz115_2
   try clear hcz14_0
   try clear hcz14_1
   try clear hcz14_2
   try clear hcz15_0
   try clear hcz15_1
   try clear hcz15_2
   try clear hcz20_0
   try clear hcz20_1
   try clear hcz20_2
   try clear hcz22_0
   try clear hcz22_1
   try clear hcz22_2
   try clear hcz26_0
   try clear hcz26_1
   try clear hcz26_2
   try clear hcz28_0
   try clear hcz28_1
   try clear hcz28_2
   try clear hcz35_0
   try clear hcz35_1
   try clear hcz35_2
   try clear hcz37_0
   try clear hcz37_1
   try clear hcz37_2
   try clear hcz41_0
   try clear hcz41_1
   try clear hcz41_2
   try clear hcz43_0
   try clear hcz43_1
   try clear hcz43_2
   try clear hcz50_0
   try clear hcz50_1
   try clear hcz50_2
   try clear hcz52_0
   try clear hcz52_1
   try clear hcz52_2
   try clear hcz56_0
   try clear hcz56_1
   try clear hcz56_2
   try clear hcz58_0
   try clear hcz58_1
   try clear hcz58_2
   try clear hcz64_0
   try clear hcz64_1
   try clear hcz64_2
   try clear hcz65_0
   try clear hcz65_1
   try clear hcz65_2
   try clear hcz70_0
   try clear hcz70_1
   try clear hcz70_2
   try clear hcz72_0
   try clear hcz72_1
   try clear hcz72_2
   try clear hcz76_0
   try clear hcz76_1
   try clear hcz76_2
   try clear hcz78_0
   try clear hcz78_1
   try clear hcz78_2
   try clear hcz85_0
   try clear hcz85_1
   try clear hcz85_2
   try clear hcz87_0
   try clear hcz87_1
   try clear hcz87_2
   try clear hcz91_0
   try clear hcz91_1
   try clear hcz91_2
   try clear hcz93_0
   try clear hcz93_1
   try clear hcz93_2
   try clear hcz9_0
   try clear hcz9_1
   try clear hcz9_2
   try clear hfz100_0
   try clear hfz100_1
   try clear hfz100_2
   try clear hfz102_0
   try clear hfz102_1
   try clear hfz102_2
   try clear hfz106_0
   try clear hfz106_1
   try clear hfz106_2
   try clear hfz108_0
   try clear hfz108_1
   try clear hfz108_2
   try clear hfz10_0
   try clear hfz10_1
   try clear hfz10_2
   try clear hfz114_0
   try clear hfz114_1
   try clear hfz114_2
   try clear hfz115_0
   try clear hfz115_1
   try clear hfz115_2
   try clear hfz14_0
   try clear hfz14_1
   try clear hfz14_2
   try clear hfz15_0
   try clear hfz15_1
   try clear hfz15_2
   try clear hfz20_0
   try clear hfz20_1
   try clear hfz20_2
   try clear hfz22_0
   try clear hfz22_1
   try clear hfz22_2
   try clear hfz26_0
   try clear hfz26_1
   try clear hfz26_2
   try clear hfz28_0
   try clear hfz28_1
   try clear hfz28_2
   try clear hfz35_0
   try clear hfz35_1
   try clear hfz35_2
   try clear hfz37_0
   try clear hfz37_1
   try clear hfz37_2
   try clear hfz41_0
   try clear hfz41_1
   try clear hfz41_2
   try clear hfz43_0
   try clear hfz43_1
   try clear hfz43_2
   try clear hfz50_0
   try clear hfz50_1
   try clear hfz50_2
   try clear hfz52_0
   try clear hfz52_1
   try clear hfz52_2
   try clear hfz56_0
   try clear hfz56_1
   try clear hfz56_2
   try clear hfz58_0
   try clear hfz58_1
   try clear hfz58_2
   try clear hfz64_0
   try clear hfz64_1
   try clear hfz64_2
   try clear hfz65_0
   try clear hfz65_1
   try clear hfz65_2
   try clear hfz70_0
   try clear hfz70_1
   try clear hfz70_2
   try clear hfz72_0
   try clear hfz72_1
   try clear hfz72_2
   try clear hfz76_0
   try clear hfz76_1
   try clear hfz76_2
   try clear hfz78_0
   try clear hfz78_1
   try clear hfz78_2
   try clear hfz85_0
   try clear hfz85_1
   try clear hfz85_2
   try clear hfz87_0
   try clear hfz87_1
   try clear hfz87_2
   try clear hfz91_0
   try clear hfz91_1
   try clear hfz91_2
   try clear hfz93_0
   try clear hfz93_1
   try clear hfz93_2
   try clear hfz9_0
   try clear hfz9_1
   try clear hfz9_2
   try clear p1
   try clear p101
   try clear p104
   try clear p107
   try clear p109
   try clear p110
   try clear p18
   try clear p2
   try clear p21
   try clear p24
   try clear p27
   try clear p29
   try clear p3
   try clear p30
   try clear p33
   try clear p36
   try clear p39
   try clear p4
   try clear p42
   try clear p44
   try clear p45
   try clear p48
   try clear p5
   try clear p51
   try clear p54
   try clear p57
   try clear p59
   try clear p6
   try clear p60
   try clear p64
   try clear p68
   try clear p71
   try clear p74
   try clear p77
   try clear p79
   try clear p80
   try clear p83
   try clear p86
   try clear p89
   try clear p92
   try clear p94
   try clear p95
   try clear p98
   try clear q1
   try clear q101
   try clear q104
   try clear q107
   try clear q109
   try clear q110
   try clear q18
   try clear q2
   try clear q21
   try clear q24
   try clear q27
   try clear q29
   try clear q3
   try clear q30
   try clear q33
   try clear q36
   try clear q39
   try clear q4
   try clear q42
   try clear q44
   try clear q45
   try clear q48
   try clear q5
   try clear q51
   try clear q54
   try clear q57
   try clear q59
   try clear q6
   try clear q60
   try clear q68
   try clear q71
   try clear q74
   try clear q77
   try clear q79
   try clear q80
   try clear q83
   try clear q86
   try clear q89
   try clear q92
   try clear q94
   try clear q95
   try clear q98
   obtain ⟨x5_1, rfl, HA, HK1, BK101, BK102, HB⟩ := hrel
   cases gk with
   | zero => exact absurd HA.out (by simp [prec_cores.l0])
   | succ k1 =>
    have H := HA.out
    clear HA
    simp only [prec_cores.l0] at H
    by_cases c116 : x5_1 = 0
    ·rw [if_pos c116] at H
     have c116b0 : (x5_1 == 0) = true := beq_iff_eq.mpr c116
     have c116b1 : (x5_1 != 0) = false := bne_eq_false_iff_eq.mpr c116
     clear c116
     by_cases c117 : a0_0 = a1_0
     ·rw [if_pos c117] at H
      have c117b0 : (a0_0 == a1_0) = true := beq_iff_eq.mpr c117
      have c117b1 : (a0_0 != a1_0) = false := bne_eq_false_iff_eq.mpr c117
      clear c117
      have H' := Aside0.mk H
      clear H
      have ix118 : (x5_1 : Int) = 0 := (by first | (with_reducible assumption) | assumption | exact eq_of_beq bA | omega)
      have p118 : (0 ≤ (x5_1 : Int)) = True := eq_true (by omega)
      have q118 : ((x5_1 : Int) < 3) = True := eq_true (by omega)
      have t118 : (x5_1 : Int).toNat = 0 := (by omega)
      clear ix118
      have hnb119 := NB101_102.out
      have hnc119 := NB102_101.out
      have hcz120_0 : wr.cell? ⟨gb101, 0, none⟩ = some (.int .u64 a0_0) := (blk_cell BK101.out 0).trans rfl
      have hcz120_1 : wr.cell? ⟨gb101, 1, none⟩ = some (.int .u64 a0_1) := (blk_cell BK101.out 1).trans rfl
      have hcz120_2 : wr.cell? ⟨gb101, 2, none⟩ = some (.int .u64 a0_2) := (blk_cell BK101.out 2).trans rfl
      have hfz120_0 := blk_frozen BK101.out 0
      have hfz120_1 := blk_frozen BK101.out 1
      have hfz120_2 := blk_frozen BK101.out 2
      have ix121 : (x5_1 : Int) = 0 := (by first | (with_reducible assumption) | assumption | exact eq_of_beq bA | omega)
      have p121 : (0 ≤ (x5_1 : Int)) = True := eq_true (by omega)
      have q121 : ((x5_1 : Int) < 3) = True := eq_true (by omega)
      have t121 : (x5_1 : Int).toNat = 0 := (by omega)
      clear ix121
      have hcz122_0 : wr.cell? ⟨gb102, 0, none⟩ = some (.int .u64 a1_0) := (blk_cell BK102.out 0).trans rfl
      have hcz122_1 : wr.cell? ⟨gb102, 1, none⟩ = some (.int .u64 a1_1) := (blk_cell BK102.out 1).trans rfl
      have hcz122_2 : wr.cell? ⟨gb102, 2, none⟩ = some (.int .u64 a1_2) := (blk_cell BK102.out 2).trans rfl
      have hfz122_0 := blk_frozen BK102.out 0
      have hfz122_1 := blk_frozen BK102.out 1
      have hfz122_2 := blk_frozen BK102.out 2
      go_wp2
      repeat (go_quiet (fail); try go_wp2)
      go_step3
      (try simp only [Exit.then, Exit.inBlock, Lab.gotos])
      refine Lab.again HIH_0 k1 ?lm1 ?lm2 ?lm3
      case lm1 => have := HK1.out; omega
      case lm2 => have := HK1.out; omega
      case lm3 =>
       (repeat apply Exists.intro)
       refine ⟨?rel, ?fr⟩
       case fr => (simp only [Act.put, List.setIfInBounds_toArray, List.set_cons_zero, List.set_cons_succ] <;> rfl)
       case rel => exact ⟨(wrap64 (x5_1 + 1)), bS, H', ⟨by have := HK1.out; omega⟩, ⟨aKw BK101⟩, ⟨aKw BK102⟩, ⟨bB⟩⟩
     ·rw [if_neg c117] at H
      have c117b0 : (a0_0 == a1_0) = false := beq_eq_false_iff_ne.mpr c117
      have c117b1 : (a0_0 != a1_0) = true := bne_iff_ne.mpr c117
      replace H := Option.bind_eq_some_iff.mp H
      obtain ⟨t103, A1230, H⟩ := H
      replace H : (some t103) = some r := H
      have A123 := Aside0.mk A1230
      clear A1230
      obtain rfl := Option.some.inj H
      have ix124 : (x5_1 : Int) = 0 := (by first | (with_reducible assumption) | assumption | exact eq_of_beq bA | omega)
      have p124 : (0 ≤ (x5_1 : Int)) = True := eq_true (by omega)
      have q124 : ((x5_1 : Int) < 3) = True := eq_true (by omega)
      have t124 : (x5_1 : Int).toNat = 0 := (by omega)
      clear ix124
      have hnb125 := NB101_102.out
      have hnc125 := NB102_101.out
      have hcz126_0 : wr.cell? ⟨gb101, 0, none⟩ = some (.int .u64 a0_0) := (blk_cell BK101.out 0).trans rfl
      have hcz126_1 : wr.cell? ⟨gb101, 1, none⟩ = some (.int .u64 a0_1) := (blk_cell BK101.out 1).trans rfl
      have hcz126_2 : wr.cell? ⟨gb101, 2, none⟩ = some (.int .u64 a0_2) := (blk_cell BK101.out 2).trans rfl
      have hfz126_0 := blk_frozen BK101.out 0
      have hfz126_1 := blk_frozen BK101.out 1
      have hfz126_2 := blk_frozen BK101.out 2
      have ix127 : (x5_1 : Int) = 0 := (by first | (with_reducible assumption) | assumption | exact eq_of_beq bA | omega)
      have p127 : (0 ≤ (x5_1 : Int)) = True := eq_true (by omega)
      have q127 : ((x5_1 : Int) < 3) = True := eq_true (by omega)
      have t127 : (x5_1 : Int).toNat = 0 := (by omega)
      clear ix127
      have hcz128_0 : wr.cell? ⟨gb102, 0, none⟩ = some (.int .u64 a1_0) := (blk_cell BK102.out 0).trans rfl
      have hcz128_1 : wr.cell? ⟨gb102, 1, none⟩ = some (.int .u64 a1_1) := (blk_cell BK102.out 1).trans rfl
      have hcz128_2 : wr.cell? ⟨gb102, 2, none⟩ = some (.int .u64 a1_2) := (blk_cell BK102.out 2).trans rfl
      have hfz128_0 := blk_frozen BK102.out 0
      have hfz128_1 := blk_frozen BK102.out 1
      have hfz128_2 := blk_frozen BK102.out 2
      have ix129 : (x5_1 : Int) = 0 := (by first | (with_reducible assumption) | assumption | exact eq_of_beq bA | omega)
      have p129 : (0 ≤ (x5_1 : Int)) = True := eq_true (by omega)
      have q129 : ((x5_1 : Int) < 3) = True := eq_true (by omega)
      have t129 : (x5_1 : Int).toNat = 0 := (by omega)
      clear ix129
      have ix130 : (x5_1 : Int) = 0 := (by first | (with_reducible assumption) | assumption | exact eq_of_beq bA | omega)
      have p130 : (0 ≤ (x5_1 : Int)) = True := eq_true (by omega)
      have q130 : ((x5_1 : Int) < 3) = True := eq_true (by omega)
      have t130 : (x5_1 : Int).toNat = 0 := (by omega)
      clear ix130
      go_wp2_with (first | (go_at_call 79; (with_reducible refine (cmp_Compare_uint64.calls a0_0 a1_0 t103 _ A123.out).mono ?_); rintro e w' ⟨rfl, ⟨nd, rfl⟩⟩; (try first | exact ⟨rfl, _, World.drewN_drewN _ _ _⟩ | exact ⟨rfl, _, Eq.trans (World.drewN_drewN _ _ _) (congrArg (World.drewN _) (Nat.add_assoc _ _ _))⟩)))
      repeat (go_quiet (first | (go_at_call 79; (with_reducible refine (cmp_Compare_uint64.calls a0_0 a1_0 t103 _ A123.out).mono ?_); rintro e w' ⟨rfl, ⟨nd, rfl⟩⟩; (try first | exact ⟨rfl, _, World.drewN_drewN _ _ _⟩ | exact ⟨rfl, _, Eq.trans (World.drewN_drewN _ _ _) (congrArg (World.drewN _) (Nat.add_assoc _ _ _))⟩))); try go_wp2_with (first | (go_at_call 79; (with_reducible refine (cmp_Compare_uint64.calls a0_0 a1_0 t103 _ A123.out).mono ?_); rintro e w' ⟨rfl, ⟨nd, rfl⟩⟩; (try first | exact ⟨rfl, _, World.drewN_drewN _ _ _⟩ | exact ⟨rfl, _, Eq.trans (World.drewN_drewN _ _ _) (congrArg (World.drewN _) (Nat.add_assoc _ _ _))⟩))))
      (try simp only [Exit.then, Exit.inBlock, Lab.gotos])
      go_ret
      exact ⟨by first | rfl | (simp [errW_none, errW_some] <;> rfl) | (simp [*, errW_none, errW_some] <;> rfl), bB⟩
    ·rw [if_neg c116] at H
     have c116b0 : (x5_1 == 0) = false := beq_eq_false_iff_ne.mpr c116
     have c116b1 : (x5_1 != 0) = true := bne_iff_ne.mpr c116
     by_cases c131 : x5_1 = 1
     ·rw [if_pos c131] at H
      have c131b0 : (x5_1 == 1) = true := beq_iff_eq.mpr c131
      have c131b1 : (x5_1 != 1) = false := bne_eq_false_iff_eq.mpr c131
      clear c131
      by_cases c132 : a0_1 = a1_1
      ·rw [if_pos c132] at H
       have c132b0 : (a0_1 == a1_1) = true := beq_iff_eq.mpr c132
       have c132b1 : (a0_1 != a1_1) = false := bne_eq_false_iff_eq.mpr c132
       clear c132
       have H' := Aside0.mk H
       clear H
       have ix133 : (x5_1 : Int) = 1 := (by first | (with_reducible assumption) | assumption | exact eq_of_beq bA | omega)
       have p133 : (0 ≤ (x5_1 : Int)) = True := eq_true (by omega)
       have q133 : ((x5_1 : Int) < 3) = True := eq_true (by omega)
       have t133 : (x5_1 : Int).toNat = 1 := (by omega)
       clear ix133
       have hnb134 := NB101_102.out
       have hnc134 := NB102_101.out
       have hcz135_0 : wr.cell? ⟨gb101, 0, none⟩ = some (.int .u64 a0_0) := (blk_cell BK101.out 0).trans rfl
       have hcz135_1 : wr.cell? ⟨gb101, 1, none⟩ = some (.int .u64 a0_1) := (blk_cell BK101.out 1).trans rfl
       have hcz135_2 : wr.cell? ⟨gb101, 2, none⟩ = some (.int .u64 a0_2) := (blk_cell BK101.out 2).trans rfl
       have hfz135_0 := blk_frozen BK101.out 0
       have hfz135_1 := blk_frozen BK101.out 1
       have hfz135_2 := blk_frozen BK101.out 2
       have ix136 : (x5_1 : Int) = 1 := (by first | (with_reducible assumption) | assumption | exact eq_of_beq bA | omega)
       have p136 : (0 ≤ (x5_1 : Int)) = True := eq_true (by omega)
       have q136 : ((x5_1 : Int) < 3) = True := eq_true (by omega)
       have t136 : (x5_1 : Int).toNat = 1 := (by omega)
       clear ix136
       have hcz137_0 : wr.cell? ⟨gb102, 0, none⟩ = some (.int .u64 a1_0) := (blk_cell BK102.out 0).trans rfl
       have hcz137_1 : wr.cell? ⟨gb102, 1, none⟩ = some (.int .u64 a1_1) := (blk_cell BK102.out 1).trans rfl
       have hcz137_2 : wr.cell? ⟨gb102, 2, none⟩ = some (.int .u64 a1_2) := (blk_cell BK102.out 2).trans rfl
       have hfz137_0 := blk_frozen BK102.out 0
       have hfz137_1 := blk_frozen BK102.out 1
       have hfz137_2 := blk_frozen BK102.out 2
       go_wp2
       repeat (go_quiet (fail); try go_wp2)
       go_step3
       (try simp only [Exit.then, Exit.inBlock, Lab.gotos])
       refine Lab.again HIH_0 k1 ?lm1 ?lm2 ?lm3
       case lm1 => have := HK1.out; omega
       case lm2 => have := HK1.out; omega
       case lm3 =>
        (repeat apply Exists.intro)
        refine ⟨?rel, ?fr⟩
        case fr => (simp only [Act.put, List.setIfInBounds_toArray, List.set_cons_zero, List.set_cons_succ] <;> rfl)
        case rel => exact ⟨(wrap64 (x5_1 + 1)), bS, H', ⟨by have := HK1.out; omega⟩, ⟨aKw BK101⟩, ⟨aKw BK102⟩, ⟨bB⟩⟩
      ·rw [if_neg c132] at H
       have c132b0 : (a0_1 == a1_1) = false := beq_eq_false_iff_ne.mpr c132
       have c132b1 : (a0_1 != a1_1) = true := bne_iff_ne.mpr c132
       replace H := Option.bind_eq_some_iff.mp H
       obtain ⟨t104, A1380, H⟩ := H
       replace H : (some t104) = some r := H
       have A138 := Aside0.mk A1380
       clear A1380
       obtain rfl := Option.some.inj H
       have ix139 : (x5_1 : Int) = 1 := (by first | (with_reducible assumption) | assumption | exact eq_of_beq bA | omega)
       have p139 : (0 ≤ (x5_1 : Int)) = True := eq_true (by omega)
       have q139 : ((x5_1 : Int) < 3) = True := eq_true (by omega)
       have t139 : (x5_1 : Int).toNat = 1 := (by omega)
       clear ix139
       have hnb140 := NB101_102.out
       have hnc140 := NB102_101.out
       have hcz141_0 : wr.cell? ⟨gb101, 0, none⟩ = some (.int .u64 a0_0) := (blk_cell BK101.out 0).trans rfl
       have hcz141_1 : wr.cell? ⟨gb101, 1, none⟩ = some (.int .u64 a0_1) := (blk_cell BK101.out 1).trans rfl
       have hcz141_2 : wr.cell? ⟨gb101, 2, none⟩ = some (.int .u64 a0_2) := (blk_cell BK101.out 2).trans rfl
       have hfz141_0 := blk_frozen BK101.out 0
       have hfz141_1 := blk_frozen BK101.out 1
       have hfz141_2 := blk_frozen BK101.out 2
       have ix142 : (x5_1 : Int) = 1 := (by first | (with_reducible assumption) | assumption | exact eq_of_beq bA | omega)
       have p142 : (0 ≤ (x5_1 : Int)) = True := eq_true (by omega)
       have q142 : ((x5_1 : Int) < 3) = True := eq_true (by omega)
       have t142 : (x5_1 : Int).toNat = 1 := (by omega)
       clear ix142
       have hcz143_0 : wr.cell? ⟨gb102, 0, none⟩ = some (.int .u64 a1_0) := (blk_cell BK102.out 0).trans rfl
       have hcz143_1 : wr.cell? ⟨gb102, 1, none⟩ = some (.int .u64 a1_1) := (blk_cell BK102.out 1).trans rfl
       have hcz143_2 : wr.cell? ⟨gb102, 2, none⟩ = some (.int .u64 a1_2) := (blk_cell BK102.out 2).trans rfl
       have hfz143_0 := blk_frozen BK102.out 0
       have hfz143_1 := blk_frozen BK102.out 1
       have hfz143_2 := blk_frozen BK102.out 2
       have ix144 : (x5_1 : Int) = 1 := (by first | (with_reducible assumption) | assumption | exact eq_of_beq bA | omega)
       have p144 : (0 ≤ (x5_1 : Int)) = True := eq_true (by omega)
       have q144 : ((x5_1 : Int) < 3) = True := eq_true (by omega)
       have t144 : (x5_1 : Int).toNat = 1 := (by omega)
       clear ix144
       have ix145 : (x5_1 : Int) = 1 := (by first | (with_reducible assumption) | assumption | exact eq_of_beq bA | omega)
       have p145 : (0 ≤ (x5_1 : Int)) = True := eq_true (by omega)
       have q145 : ((x5_1 : Int) < 3) = True := eq_true (by omega)
       have t145 : (x5_1 : Int).toNat = 1 := (by omega)
       clear ix145
       go_wp2_with (first | (go_at_call 79; (with_reducible refine (cmp_Compare_uint64.calls a0_1 a1_1 t104 _ A138.out).mono ?_); rintro e w' ⟨rfl, ⟨nd, rfl⟩⟩; (try first | exact ⟨rfl, _, World.drewN_drewN _ _ _⟩ | exact ⟨rfl, _, Eq.trans (World.drewN_drewN _ _ _) (congrArg (World.drewN _) (Nat.add_assoc _ _ _))⟩)))
       repeat (go_quiet (first | (go_at_call 79; (with_reducible refine (cmp_Compare_uint64.calls a0_1 a1_1 t104 _ A138.out).mono ?_); rintro e w' ⟨rfl, ⟨nd, rfl⟩⟩; (try first | exact ⟨rfl, _, World.drewN_drewN _ _ _⟩ | exact ⟨rfl, _, Eq.trans (World.drewN_drewN _ _ _) (congrArg (World.drewN _) (Nat.add_assoc _ _ _))⟩))); try go_wp2_with (first | (go_at_call 79; (with_reducible refine (cmp_Compare_uint64.calls a0_1 a1_1 t104 _ A138.out).mono ?_); rintro e w' ⟨rfl, ⟨nd, rfl⟩⟩; (try first | exact ⟨rfl, _, World.drewN_drewN _ _ _⟩ | exact ⟨rfl, _, Eq.trans (World.drewN_drewN _ _ _) (congrArg (World.drewN _) (Nat.add_assoc _ _ _))⟩))))
       (try simp only [Exit.then, Exit.inBlock, Lab.gotos])
       go_ret
       exact ⟨by first | rfl | (simp [errW_none, errW_some] <;> rfl) | (simp [*, errW_none, errW_some] <;> rfl), bB⟩
     ·rw [if_neg c131] at H
      have c131b0 : (x5_1 == 1) = false := beq_eq_false_iff_ne.mpr c131
      have c131b1 : (x5_1 != 1) = true := bne_iff_ne.mpr c131
      by_cases c146 : x5_1 = 2
      ·rw [if_pos c146] at H
       have c146b0 : (x5_1 == 2) = true := beq_iff_eq.mpr c146
       have c146b1 : (x5_1 != 2) = false := bne_eq_false_iff_eq.mpr c146
       clear c146
       by_cases c147 : a0_2 = a1_2
       ·rw [if_pos c147] at H
        have c147b0 : (a0_2 == a1_2) = true := beq_iff_eq.mpr c147
        have c147b1 : (a0_2 != a1_2) = false := bne_eq_false_iff_eq.mpr c147
        clear c147
        have H' := Aside0.mk H
        clear H
        have ix148 : (x5_1 : Int) = 2 := (by first | (with_reducible assumption) | assumption | exact eq_of_beq bA | omega)
        have p148 : (0 ≤ (x5_1 : Int)) = True := eq_true (by omega)
        have q148 : ((x5_1 : Int) < 3) = True := eq_true (by omega)
        have t148 : (x5_1 : Int).toNat = 2 := (by omega)
        clear ix148
        have hnb149 := NB101_102.out
        have hnc149 := NB102_101.out
        have hcz150_0 : wr.cell? ⟨gb101, 0, none⟩ = some (.int .u64 a0_0) := (blk_cell BK101.out 0).trans rfl
        have hcz150_1 : wr.cell? ⟨gb101, 1, none⟩ = some (.int .u64 a0_1) := (blk_cell BK101.out 1).trans rfl
        have hcz150_2 : wr.cell? ⟨gb101, 2, none⟩ = some (.int .u64 a0_2) := (blk_cell BK101.out 2).trans rfl
        have hfz150_0 := blk_frozen BK101.out 0
        have hfz150_1 := blk_frozen BK101.out 1
        have hfz150_2 := blk_frozen BK101.out 2
        have ix151 : (x5_1 : Int) = 2 := (by first | (with_reducible assumption) | assumption | exact eq_of_beq bA | omega)
        have p151 : (0 ≤ (x5_1 : Int)) = True := eq_true (by omega)
        have q151 : ((x5_1 : Int) < 3) = True := eq_true (by omega)
        have t151 : (x5_1 : Int).toNat = 2 := (by omega)
        clear ix151
        have hcz152_0 : wr.cell? ⟨gb102, 0, none⟩ = some (.int .u64 a1_0) := (blk_cell BK102.out 0).trans rfl
        have hcz152_1 : wr.cell? ⟨gb102, 1, none⟩ = some (.int .u64 a1_1) := (blk_cell BK102.out 1).trans rfl
        have hcz152_2 : wr.cell? ⟨gb102, 2, none⟩ = some (.int .u64 a1_2) := (blk_cell BK102.out 2).trans rfl
        have hfz152_0 := blk_frozen BK102.out 0
        have hfz152_1 := blk_frozen BK102.out 1
        have hfz152_2 := blk_frozen BK102.out 2
        go_wp2
        repeat (go_quiet (fail); try go_wp2)
        go_step3
        (try simp only [Exit.then, Exit.inBlock, Lab.gotos])
        refine Lab.again HIH_0 k1 ?lm1 ?lm2 ?lm3
        case lm1 => have := HK1.out; omega
        case lm2 => have := HK1.out; omega
        case lm3 =>
         (repeat apply Exists.intro)
         refine ⟨?rel, ?fr⟩
         case fr => (simp only [Act.put, List.setIfInBounds_toArray, List.set_cons_zero, List.set_cons_succ] <;> rfl)
         case rel => exact ⟨(wrap64 (x5_1 + 1)), bS, H', ⟨by have := HK1.out; omega⟩, ⟨aKw BK101⟩, ⟨aKw BK102⟩, ⟨bB⟩⟩
       ·rw [if_neg c147] at H
        have c147b0 : (a0_2 == a1_2) = false := beq_eq_false_iff_ne.mpr c147
        have c147b1 : (a0_2 != a1_2) = true := bne_iff_ne.mpr c147
        replace H := Option.bind_eq_some_iff.mp H
        obtain ⟨t105, A1530, H⟩ := H
        replace H : (some t105) = some r := H
        have A153 := Aside0.mk A1530
        clear A1530
        obtain rfl := Option.some.inj H
        have ix154 : (x5_1 : Int) = 2 := (by first | (with_reducible assumption) | assumption | exact eq_of_beq bA | omega)
        have p154 : (0 ≤ (x5_1 : Int)) = True := eq_true (by omega)
        have q154 : ((x5_1 : Int) < 3) = True := eq_true (by omega)
        have t154 : (x5_1 : Int).toNat = 2 := (by omega)
        clear ix154
        have hnb155 := NB101_102.out
        have hnc155 := NB102_101.out
        have hcz156_0 : wr.cell? ⟨gb101, 0, none⟩ = some (.int .u64 a0_0) := (blk_cell BK101.out 0).trans rfl
        have hcz156_1 : wr.cell? ⟨gb101, 1, none⟩ = some (.int .u64 a0_1) := (blk_cell BK101.out 1).trans rfl
        have hcz156_2 : wr.cell? ⟨gb101, 2, none⟩ = some (.int .u64 a0_2) := (blk_cell BK101.out 2).trans rfl
        have hfz156_0 := blk_frozen BK101.out 0
        have hfz156_1 := blk_frozen BK101.out 1
        have hfz156_2 := blk_frozen BK101.out 2
        have ix157 : (x5_1 : Int) = 2 := (by first | (with_reducible assumption) | assumption | exact eq_of_beq bA | omega)
        have p157 : (0 ≤ (x5_1 : Int)) = True := eq_true (by omega)
        have q157 : ((x5_1 : Int) < 3) = True := eq_true (by omega)
        have t157 : (x5_1 : Int).toNat = 2 := (by omega)
        clear ix157
        have hcz158_0 : wr.cell? ⟨gb102, 0, none⟩ = some (.int .u64 a1_0) := (blk_cell BK102.out 0).trans rfl
        have hcz158_1 : wr.cell? ⟨gb102, 1, none⟩ = some (.int .u64 a1_1) := (blk_cell BK102.out 1).trans rfl
        have hcz158_2 : wr.cell? ⟨gb102, 2, none⟩ = some (.int .u64 a1_2) := (blk_cell BK102.out 2).trans rfl
        have hfz158_0 := blk_frozen BK102.out 0
        have hfz158_1 := blk_frozen BK102.out 1
        have hfz158_2 := blk_frozen BK102.out 2
        have ix159 : (x5_1 : Int) = 2 := (by first | (with_reducible assumption) | assumption | exact eq_of_beq bA | omega)
        have p159 : (0 ≤ (x5_1 : Int)) = True := eq_true (by omega)
        have q159 : ((x5_1 : Int) < 3) = True := eq_true (by omega)
        have t159 : (x5_1 : Int).toNat = 2 := (by omega)
        clear ix159
        have ix160 : (x5_1 : Int) = 2 := (by first | (with_reducible assumption) | assumption | exact eq_of_beq bA | omega)
        have p160 : (0 ≤ (x5_1 : Int)) = True := eq_true (by omega)
        have q160 : ((x5_1 : Int) < 3) = True := eq_true (by omega)
        have t160 : (x5_1 : Int).toNat = 2 := (by omega)
        clear ix160
        go_wp2_with (first | (go_at_call 79; (with_reducible refine (cmp_Compare_uint64.calls a0_2 a1_2 t105 _ A153.out).mono ?_); rintro e w' ⟨rfl, ⟨nd, rfl⟩⟩; (try first | exact ⟨rfl, _, World.drewN_drewN _ _ _⟩ | exact ⟨rfl, _, Eq.trans (World.drewN_drewN _ _ _) (congrArg (World.drewN _) (Nat.add_assoc _ _ _))⟩)))
        repeat (go_quiet (first | (go_at_call 79; (with_reducible refine (cmp_Compare_uint64.calls a0_2 a1_2 t105 _ A153.out).mono ?_); rintro e w' ⟨rfl, ⟨nd, rfl⟩⟩; (try first | exact ⟨rfl, _, World.drewN_drewN _ _ _⟩ | exact ⟨rfl, _, Eq.trans (World.drewN_drewN _ _ _) (congrArg (World.drewN _) (Nat.add_assoc _ _ _))⟩))); try go_wp2_with (first | (go_at_call 79; (with_reducible refine (cmp_Compare_uint64.calls a0_2 a1_2 t105 _ A153.out).mono ?_); rintro e w' ⟨rfl, ⟨nd, rfl⟩⟩; (try first | exact ⟨rfl, _, World.drewN_drewN _ _ _⟩ | exact ⟨rfl, _, Eq.trans (World.drewN_drewN _ _ _) (congrArg (World.drewN _) (Nat.add_assoc _ _ _))⟩))))
        (try simp only [Exit.then, Exit.inBlock, Lab.gotos])
        go_ret
        exact ⟨by first | rfl | (simp [errW_none, errW_some] <;> rfl) | (simp [*, errW_none, errW_some] <;> rfl), bB⟩
      ·rw [if_neg c146] at H
       exact absurd H (by simp)

end Go.Proofs.YtildmfegfkiknaaDoor.X
