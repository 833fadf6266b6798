-- Written by a program of this session (wip/xp), out of the translation. Not trusted: Lean checks it.
import Derived.Test.YtildmfegfkiknaaDoorX0
import Derived.Test.YtildmfegfkiknaaDoorXn56
import Derived.Test.YtildmfegfkiknaaDoorXn57
-- shrunk
namespace Go.Proofs.YtildmfegfkiknaaDoor.X
open Go.RowKit Go.Proofs.YtildmfegfkiknaaDoorW.PrintWords Go.Proofs.YtildmfegfkiknaaDoorW.PrintLast Go.Proofs.YtildmfegfkiknaaDoorW.PrintMore
attribute [local go_sem] Lab.str_gtr Lab.str_leq Lab.str_geq max2_int min2_int max_two min_two max_three min_three max_four min_four   -- for this text's walks alone
set_option linter.unusedVariables false
set_option linter.unusedSimpArgs false

/-! ### prec_Caret: function 23 -/
def prec_Caret.l0 : Nat → Int → Int → Int → Int → Option (Int × Int × Int × List ByteArray × List ByteArray × Bool)
 | 0, _, _, _, _ => none
 | k + 1, x5, x107000, x107001, x107002 => if x5 < 2 then (if x5 = 0 then (if x107000 = 0 then (prec_Caret.l0 k (wrap64 (x5 + 1)) x107000 x107001 x107002) else ((prec_end.f k x107000 x107001 x107002 x5).bind fun bt107 => (some (bt107.1, bt107.2.1, bt107.2.2.1, bt107.2.2.2.1, bt107.2.2.2.2.1, bt107.2.2.2.2.2)))) else (if x5 = 1 then (if x107001 = 0 then (prec_Caret.l0 k (wrap64 (x5 + 1)) x107000 x107001 x107002) else ((prec_end.f k x107000 x107001 x107002 x5).bind fun bt117 => (some (bt117.1, bt117.2.1, bt117.2.2.1, bt117.2.2.2.1, bt117.2.2.2.2.1, bt117.2.2.2.2.2)))) else (if x5 = 2 then (if x107002 = 0 then (prec_Caret.l0 k (wrap64 (x5 + 1)) x107000 x107001 x107002) else ((prec_end.f k x107000 x107001 x107002 x5).bind fun bt127 => (some (bt127.1, bt127.2.1, bt127.2.2.1, bt127.2.2.2.1, bt127.2.2.2.2.1, bt127.2.2.2.2.2)))) else (none)))) else ((prec_end.f k x107000 x107001 x107002 x5).bind fun bt137 => (some (bt137.1, bt137.2.1, bt137.2.2.1, bt137.2.2.2.1, bt137.2.2.2.2.1, bt137.2.2.2.2.2)))
def prec_Caret.f (k : Nat) (a0_0 : Int) (a0_1 : Int) (a0_2 : Int) (l0_3 : List ByteArray) (l0_4 : List ByteArray) : Option (Int × Int × Int × List ByteArray × List ByteArray × Bool) := (prec_core.f a0_0 a0_1 a0_2 l0_3 l0_4).bind fun bt103 => (prec_Caret.l0 k 0 bt103.1 bt103.2.1 bt103.2.2)
theorem prec_Caret.mono_l : ∀ k, (∀ y0 y1 y2 y3, LeO (prec_Caret.l0 k y0 y1 y2 y3) (prec_Caret.l0 (k + 1) y0 y1 y2 y3))
 | 0 => fun _ _ _ _ r h => by simp [prec_Caret.l0] at h
 | k + 1 => by
  have ih0 := prec_Caret.mono_l k
  ·intro y0 y1 y2 y3
   unfold prec_Caret.l0
   repeat' first
   | (with_reducible exact ih0 _ _ _ _)
   | (with_reducible exact prec_end.mono _ _ _ _ _)
   | (with_reducible exact LeO.refl _)
   | (with_reducible exact LeO.none _)
   | (with_reducible refine LeO.ite ?_ ?_)
   | (with_reducible refine LeO.bind ?_ (fun _ => ?_))
   | exact ih0 _ _ _ _
   | exact prec_end.mono _ _ _ _ _
   | exact LeO.none _
   | refine LeO.ite ?_ ?_
   | refine LeO.bind ?_ (fun _ => ?_)
theorem prec_Caret.mono : ∀ a0 a1 a2 a3 a4 k, LeO (prec_Caret.f k a0 a1 a2 a3 a4) (prec_Caret.f (k + 1) a0 a1 a2 a3 a4) := by
 intro a0 a1 a2 a3 a4 k
 have ih0 := prec_Caret.mono_l k
 unfold prec_Caret.f
 repeat' first
   | (with_reducible exact ih0 _ _ _ _)
   | (with_reducible exact prec_end.mono _ _ _ _ _)
   | (with_reducible exact LeO.refl _)
   | (with_reducible exact LeO.none _)
   | (with_reducible refine LeO.ite ?_ ?_)
   | (with_reducible refine LeO.bind ?_ (fun _ => ?_))
   | exact ih0 _ _ _ _
   | exact prec_end.mono _ _ _ _ _
   | exact LeO.none _
   | refine LeO.ite ?_ ?_
   | refine LeO.bind ?_ (fun _ => ?_)
set_option maxHeartbeats 8000000 in
set_option maxRecDepth 100000 in
theorem prec_Caret.calls (k : Nat) (a0_0 : Int) (a0_1 : Int) (a0_2 : Int) (A0_3 : Option Addr) (c0_3 : Nat) (l0_3 : List ByteArray) (A0_4 : Option Addr) (c0_4 : Nat) (l0_4 : List ByteArray) (r1 : Int) (r2 : Int) (r3 : Int) (r4 : List ByteArray) (r5 : List ByteArray) (r6 : Bool) (w : World) (hr0_3 : Kd.C Kd.string w A0_3 l0_3.length l0_3) (hc0_3 : l0_3.length ≤ c0_3) (hr0_4 : Kd.C Kd.string w A0_4 l0_4.length l0_4) (hc0_4 : l0_4.length ≤ c0_4) (h : prec_Caret.f k a0_0 a0_1 a0_2 l0_3 l0_4 = some (r1, r2, r3, r4, r5, r6)) :
  Calls Tryd.prog 23 #[.agg #[.int .u64 a0_0, .int .u64 a0_1, .int .u64 a0_2, .slice A0_3 l0_3.length c0_3, .slice A0_4 l0_4.length c0_4]] w fun e w' => ∃ v3_ v4_ : Value, e = .returned (.tuple #[.agg #[.int .u64 r1, .int .u64 r2, .int .u64 r3, v3_, v4_], .bool r6]) ∧ Kd.R Kd.string 9 w' w.heap.size (fun k_ => some k_ ≠ (v4_ : Value).ownBlock) v3_ r4 ∧ Kd.R Kd.string 9 w' w.heap.size (fun k_ => some k_ ≠ (v3_ : Value).ownBlock) v4_ r5 ∧ Below w.heap.size w w' := by
 have hu40 := Tryd.underlying40
 have hu67 := Tryd.underlying67
 have HR0_3 := Aside0.mk hr0_3
 have HC0_3 := Aside0.mk hc0_3
 clear hr0_3 hc0_3
 have HR0_4 := Aside0.mk hr0_4
 have HC0_4 := Aside0.mk hc0_4
 clear hr0_4 hc0_4
 have HB := Aside0.mk (Below.refl w.heap.size w)
 have H : ((prec_core.f a0_0 a0_1 a0_2 l0_3 l0_4).bind fun bt103 => (prec_Caret.l0 k 0 bt103.1 bt103.2.1 bt103.2.2)) = some (r1, r2, r3, r4, r5, r6) := h
 clear h
 replace H := Option.bind_eq_some_iff.mp H
 obtain ⟨⟨t103, t104, t105⟩, A20, H⟩ := H
 replace H : (prec_Caret.l0 k 0 t103 t104 t105) = some (r1, r2, r3, r4, r5, r6) := H
 have A2 := Aside0.mk A20
 clear A20
 have H' := Aside0.mk H
 clear H
 go_enter Tryd.func23, Tryd.ntmps23
 go_wp2_with (first | ((with_reducible refine gate_dst (N := 1) rfl ?_); refine box_event ?hg (N := 1) ?hd (cs := #[.int .u64 a0_0, .int .u64 a0_1, .int .u64 a0_2, .slice A0_3 l0_3.length c0_3, .slice A0_4 l0_4.length c0_4]) (t := 40) ?hr ?_; (case hd => rfl); (case hg => rfl); (case hr => first | (go_simp; done) | (go_simp; rfl)); intro gb101 hg w3 hbox hb; have BK101 := Aside0.mk hbox; have GW101 := Aside0.mk ((by rw [hg]; exact (below_size bB) : w.heap.size ≤ gb101)); have GE101 := Aside0.mk ((by rw [hg]; exact (below_size bB) : w.heap.size ≤ gb101)); replace HB := aB HB hb; clear hb hbox hg) | ((with_reducible refine gate_dst (N := 2) rfl ?_); refine box_event ?hg (N := 2) ?hd (cs := #[.int .u64 0, .int .u64 0, .int .u64 0, .slice none 0 0, .slice none 0 0]) (t := 40) ?hr ?_; (case hd => rfl); (case hg => rfl); (case hr => first | (go_simp; done) | (go_simp; rfl)); intro gb102 hg w4 hbox hb; have BK102 := Aside0.mk hbox; have GW102 := Aside0.mk ((by rw [hg]; exact (below_size bB) : w.heap.size ≤ gb102)); have GE102 := Aside0.mk ((by rw [hg]; exact (below_size bB) : w.heap.size ≤ gb102)); replace HB := aB HB hb; have NB101_102 := Aside0.mk ((by rw [hg]; exact Nat.ne_of_lt (blk_lt (g := gb101) (o := .cells #[.int .u64 a0_0, .int .u64 a0_1, .int .u64 a0_2, .slice A0_3 l0_3.length c0_3, .slice A0_4 l0_4.length c0_4] 40 (0, 0)) (aKw BK101)) : gb101 ≠ gb102)); have NB102_101 := Aside0.mk ((by rw [hg]; exact Nat.ne_of_gt (blk_lt (g := gb101) (o := .cells #[.int .u64 a0_0, .int .u64 a0_1, .int .u64 a0_2, .slice A0_3 l0_3.length c0_3, .slice A0_4 l0_4.length c0_4] 40 (0, 0)) (aKw BK101)) : gb102 ≠ gb101)); replace BK101 := aK BK101 hb; clear hb hbox hg; have hnb5 := NB101_102.out; have hnc5 := NB102_101.out; have hcz6_0 : w4.cell? ⟨gb101, 0, none⟩ = some (.int .u64 a0_0) := (blk_cell BK101.out 0).trans rfl; have hcz6_1 : w4.cell? ⟨gb101, 1, none⟩ = some (.int .u64 a0_1) := (blk_cell BK101.out 1).trans rfl; have hcz6_2 : w4.cell? ⟨gb101, 2, none⟩ = some (.int .u64 a0_2) := (blk_cell BK101.out 2).trans rfl; have hcz6_3 : w4.cell? ⟨gb101, 3, none⟩ = some (.slice A0_3 l0_3.length c0_3) := (blk_cell BK101.out 3).trans rfl; have hcz6_4 : w4.cell? ⟨gb101, 4, none⟩ = some (.slice A0_4 l0_4.length c0_4) := (blk_cell BK101.out 4).trans rfl; have hfz6_0 := blk_frozen BK101.out 0; have hfz6_1 := blk_frozen BK101.out 1; have hfz6_2 := blk_frozen BK101.out 2; have hfz6_3 := blk_frozen BK101.out 3; have hfz6_4 := blk_frozen BK101.out 4) | ((with_reducible refine gate_callee (f := 56) rfl ?_); refine goesL_ (some 7) rfl rfl Tryd.func56 (by kernel_rfl) rfl #[.agg #[.int .u64 a0_0, .int .u64 a0_1, .int .u64 a0_2, .slice A0_3 l0_3.length c0_3, .slice A0_4 l0_4.length c0_4]] rfl bM ?_; (with_reducible refine (prec_core.calls a0_0 a0_1 a0_2 _ _ l0_3 _ _ l0_4 t103 t104 t105 _ ?side1 ?side2 ?side3 ?side4 A2.out).mono ?_); (case side1 => exact sW (Kd.C_below HR0_3.out HB.out)); (case side2 => exact HC0_3.out); (case side3 => exact sW (Kd.C_below HR0_4.out HB.out)); (case side4 => exact HC0_4.out); rintro e w7 ⟨rfl, hb⟩; refine ⟨_, rfl, ?_⟩; replace BK101 := aK BK101 hb; replace BK102 := aK BK102 hb; replace HB := aB HB hb; (try clear hb); (try clear hb2); (try clear hk); (try clear hi)) | ((with_reducible refine gate_dst (N := 4) rfl ?_); refine box_event ?hg (N := 4) ?hd (cs := #[.int .u64 0, .int .u64 0, .int .u64 0]) (t := 67) ?hr ?_; (case hd => rfl); (case hg => rfl); (case hr => first | (go_simp; done) | (go_simp; rfl)); intro gb106 hg w8 hbox hb; have BK106 := Aside0.mk hbox; have GW106 := Aside0.mk ((by rw [hg]; exact (below_size bB) : w.heap.size ≤ gb106)); have GE106 := Aside0.mk ((by rw [hg]; exact (below_size bB) : w.heap.size ≤ gb106)); replace HB := aB HB hb; have NB101_106 := Aside0.mk ((by rw [hg]; exact Nat.ne_of_lt (blk_lt (g := gb101) (o := .cells #[.int .u64 a0_0, .int .u64 a0_1, .int .u64 a0_2, .slice A0_3 l0_3.length c0_3, .slice A0_4 l0_4.length c0_4] 40 (0, 0)) (aKw BK101)) : gb101 ≠ gb106)); have NB106_101 := Aside0.mk ((by rw [hg]; exact Nat.ne_of_gt (blk_lt (g := gb101) (o := .cells #[.int .u64 a0_0, .int .u64 a0_1, .int .u64 a0_2, .slice A0_3 l0_3.length c0_3, .slice A0_4 l0_4.length c0_4] 40 (0, 0)) (aKw BK101)) : gb106 ≠ gb101)); replace BK101 := aK BK101 hb; have NB102_106 := Aside0.mk ((by rw [hg]; exact Nat.ne_of_lt (blk_lt (g := gb102) (o := .cells #[.int .u64 0, .int .u64 0, .int .u64 0, .slice none 0 0, .slice none 0 0] 40 (0, 0)) (aKw BK102)) : gb102 ≠ gb106)); have NB106_102 := Aside0.mk ((by rw [hg]; exact Nat.ne_of_gt (blk_lt (g := gb102) (o := .cells #[.int .u64 0, .int .u64 0, .int .u64 0, .slice none 0 0, .slice none 0 0] 40 (0, 0)) (aKw BK102)) : gb106 ≠ gb102)); replace BK102 := aK BK102 hb; clear hb hbox hg; have hnb9 := NB106_101.out; have hnc9 := NB101_106.out; have hnb10 := NB106_102.out; have hnc10 := NB102_106.out; have hcz11_0 : w8.cell? ⟨gb106, 0, none⟩ = some (.int .u64 0) := (blk_cell BK106.out 0).trans rfl; have hcz11_1 : w8.cell? ⟨gb106, 1, none⟩ = some (.int .u64 0) := (blk_cell BK106.out 1).trans rfl; have hcz11_2 : w8.cell? ⟨gb106, 2, none⟩ = some (.int .u64 0) := (blk_cell BK106.out 2).trans rfl; have hfz11_0 := blk_frozen BK106.out 0; have hfz11_1 := blk_frozen BK106.out 1; have hfz11_2 := blk_frozen BK106.out 2) | ((with_reducible refine Lab.wp_scope_lab (Lab.scopeOf Tryd.f23) ?sc k ?_); (case sc => kernel_rfl)))
 go_step3
 go_step
 (try go_step)
 refine Lab.wp_at_label (l := 0) (fun a0_ kq a_ w_ => ∃ u3 u5 u6 u7 u8 u9 u10 u11 u12 u13 u14 u15 u16 u17 u18 u19 u20 u21 u22 : Value, ((fun kq v5 w' => ∃ (x5_1 : Int) (x103000_1 : Int) (x103001_1 : Int) (x103002_1 : Int), v5 = .int .i64 x5_1 ∧ Aside0 (prec_Caret.l0 kq x5_1 t103 t104 t105 = some (r1, r2, r3, r4, r5, r6)) ∧ Aside0 (kq ≤ k) ∧ Aside0 (w'.heap[gb101]? = some (.cells #[.int .u64 a0_0, .int .u64 a0_1, .int .u64 a0_2, (.slice A0_3 l0_3.length c0_3), (.slice A0_4 l0_4.length c0_4)] 40 (0, 0))) ∧ Aside0 (w'.heap[gb102]? = some (.cells #[.int .u64 x103000_1, .int .u64 x103001_1, .int .u64 x103002_1, (.slice none 0 0), (.slice none 0 0)] 40 (0, 0))) ∧ Aside0 (w'.heap[gb106]? = some (.cells #[.int .u64 t103, .int .u64 t104, .int .u64 t105] 67 (0, 0))) ∧ Aside0 (Below w.heap.size w w')) kq u5 w_) ∧ a_ = (((((((((((((((((((a0_.put (some 3) u3).put (some 5) u5).put (some 6) u6).put (some 7) u7).put (some 8) u8).put (some 9) u9).put (some 10) u10).put (some 11) u11).put (some 12) u12).put (some 13) u13).put (some 14) u14).put (some 15) u15).put (some 16) u16).put (some 17) u17).put (some 18) u18).put (some 19) u19).put (some 20) u20).put (some 21) u21).put (some 22) u22)) k ?fl (by first | omega | exact Nat.le_refl _) ?atStart ?round
 case fl => kernel_rfl
 case atStart =>
  (repeat apply Exists.intro)
  refine ⟨?rel, ?fr⟩
  case fr => (simp only [Act.put, List.setIfInBounds_toArray, List.set_cons_zero, List.set_cons_succ] <;> rfl)
  case rel => exact ⟨(0), (0), (0), (0), bS, H', ⟨Nat.le_refl _⟩, ⟨aKf BK101⟩, ⟨aKf BK102⟩, ⟨by (with_reducible repeat (first | refine blk_drewN ?_ _ | refine blk_drew ?_ | refine blk_alloc ?_ _)); refine blk_put (cs := #[.int .u64 t103, .int .u64 t104, .int .u64 0]) ?_ 2 _ rfl; (with_reducible repeat (first | refine blk_drewN ?_ _ | refine blk_drew ?_ | refine blk_alloc ?_ _)); refine blk_put (cs := #[.int .u64 t103, .int .u64 0, .int .u64 0]) ?_ 1 _ rfl; (with_reducible repeat (first | refine blk_drewN ?_ _ | refine blk_drew ?_ | refine blk_alloc ?_ _)); refine blk_put (cs := #[.int .u64 0, .int .u64 0, .int .u64 0]) ?_ 0 _ rfl; (with_reducible repeat (first | refine blk_drewN ?_ _ | refine blk_drew ?_ | refine blk_alloc ?_ _)); exact BK106.out⟩, ⟨bB⟩⟩
 case round =>
  intro gk a_ wr hle_ hinv HIH_0
  clear hle_
  obtain ⟨u3, u5, u6, u7, u8, u9, u10, u11, u12, u13, u14, u15, u16, u17, u18, u19, u20, u21, u22, hrel, rfl⟩ := hinv
  (try dsimp only at hrel)
  simp only [Act.put, List.setIfInBounds_toArray, List.set_cons_zero, List.set_cons_succ]
  clear H'
  try clear c1
  try clear c2
  try clear p2
  try clear p3
  try clear c5
  try clear p6
  try clear c9
  try clear c10
  try clear hcz11_0
  try clear hcz11_1
  try clear hcz11_2
  try clear hcz6_0
  try clear hcz6_1
  try clear hcz6_2
  try clear hcz6_3
  try clear hcz6_4
  try clear hfz11_0
  try clear hfz11_1
  try clear hfz11_2
  try clear hfz6_0
  try clear hfz6_1
  try clear hfz6_2
  try clear hfz6_3
  try clear hfz6_4
  obtain ⟨x5_1, x103000_1, x103001_1, x103002_1, rfl, HA, HK1, BK101, BK102, BK106, HB⟩ := hrel
  cases gk with
  | zero => exact absurd HA.out (by simp [prec_Caret.l0])
  | succ k1 =>
   have H := HA.out
   clear HA
   simp only [prec_Caret.l0] at H
   by_cases c12 : x5_1 < 2
   ·rw [if_pos c12] at H
    have c12b0 : decide (x5_1 < 2) = true := decide_eq_true c12
    clear c12
    by_cases c13 : x5_1 = 0
    ·rw [if_pos c13] at H
     have c13b0 : (x5_1 == 0) = true := beq_iff_eq.mpr c13
     have c13b1 : (x5_1 != 0) = false := bne_eq_false_iff_eq.mpr c13
     clear c13
     by_cases c14 : t103 = 0
     ·rw [if_pos c14] at H
      have c14b0 : (t103 == 0) = true := beq_iff_eq.mpr c14
      have c14b1 : (t103 != 0) = false := bne_eq_false_iff_eq.mpr c14
      clear c14
      have H' := Aside0.mk H
      clear H
      have ix15 : (x5_1 : Int) = 0 := (by first | (with_reducible assumption) | assumption | exact eq_of_beq bA | omega)
      have p15 : (0 ≤ (x5_1 : Int)) = True := eq_true (by omega)
      have q15 : ((x5_1 : Int) < 3) = True := eq_true (by omega)
      have t15 : (x5_1 : Int).toNat = 0 := (by omega)
      clear ix15
      have hnb16 := NB106_101.out
      have hnc16 := NB101_106.out
      have hnb17 := NB106_102.out
      have hnc17 := NB102_106.out
      have hcz18_0 : wr.cell? ⟨gb106, 0, none⟩ = some (.int .u64 t103) := (blk_cell BK106.out 0).trans rfl
      have hcz18_1 : wr.cell? ⟨gb106, 1, none⟩ = some (.int .u64 t104) := (blk_cell BK106.out 1).trans rfl
      have hcz18_2 : wr.cell? ⟨gb106, 2, none⟩ = some (.int .u64 t105) := (blk_cell BK106.out 2).trans rfl
      have hfz18_0 := blk_frozen BK106.out 0
      have hfz18_1 := blk_frozen BK106.out 1
      have hfz18_2 := blk_frozen BK106.out 2
      go_wp2
      go_step3
      (try simp only [Exit.then, Exit.inBlock, Lab.gotos])
      refine Lab.again HIH_0 k1 ?lm1 ?lm2 ?lm3
      case lm1 => have := HK1.out; omega
      case lm2 => have := HK1.out; omega
      case lm3 =>
       (repeat apply Exists.intro)
       refine ⟨?rel, ?fr⟩
       case fr => (simp only [Act.put, List.setIfInBounds_toArray, List.set_cons_zero, List.set_cons_succ] <;> rfl)
       case rel => exact ⟨(wrap64 (x5_1 + 1)), (x103000_1), (x103001_1), (x103002_1), bS, H', ⟨by have := HK1.out; omega⟩, ⟨aKw BK101⟩, ⟨aKw BK102⟩, ⟨aKw BK106⟩, ⟨bB⟩⟩
     ·rw [if_neg c14] at H
      have c14b0 : (t103 == 0) = false := beq_eq_false_iff_ne.mpr c14
      have c14b1 : (t103 != 0) = true := bne_iff_ne.mpr c14
      replace H := Option.bind_eq_some_iff.mp H
      obtain ⟨⟨t107, t108, t109, t110, t113, t116⟩, A190, H⟩ := H
      replace H : (some (t107, t108, t109, t110, t113, t116)) = some (r1, r2, r3, r4, r5, r6) := H
      have A19 := Aside0.mk A190
      clear A190
      simp only [Option.some.injEq, Prod.mk.injEq] at H
      obtain ⟨rfl, rfl, rfl, rfl, rfl, rfl⟩ := H
      have ix20 : (x5_1 : Int) = 0 := (by first | (with_reducible assumption) | assumption | exact eq_of_beq bA | omega)
      have p20 : (0 ≤ (x5_1 : Int)) = True := eq_true (by omega)
      have q20 : ((x5_1 : Int) < 3) = True := eq_true (by omega)
      have t20 : (x5_1 : Int).toNat = 0 := (by omega)
      clear ix20
      have hnb21 := NB106_101.out
      have hnc21 := NB101_106.out
      have hnb22 := NB106_102.out
      have hnc22 := NB102_106.out
      have hcz23_0 : wr.cell? ⟨gb106, 0, none⟩ = some (.int .u64 t103) := (blk_cell BK106.out 0).trans rfl
      have hcz23_1 : wr.cell? ⟨gb106, 1, none⟩ = some (.int .u64 t104) := (blk_cell BK106.out 1).trans rfl
      have hcz23_2 : wr.cell? ⟨gb106, 2, none⟩ = some (.int .u64 t105) := (blk_cell BK106.out 2).trans rfl
      have hfz23_0 := blk_frozen BK106.out 0
      have hfz23_1 := blk_frozen BK106.out 1
      have hfz23_2 := blk_frozen BK106.out 2
      go_wp2_with (first | ((with_reducible refine gate_callee (f := 57) rfl ?_); refine goesL_ (some 20) rfl rfl Tryd.func57 (by kernel_rfl) rfl #[.agg #[.int .u64 t103, .int .u64 t104, .int .u64 t105], .int .i64 x5_1] rfl bM ?_; (with_reducible refine (prec_end.calls k1 t103 t104 t105 x5_1 t107 t108 t109 t110 t113 t116 _ A19.out).mono ?_); rintro e w24 ⟨v111, v114, rfl, ho0, ho1, hb⟩; refine ⟨_, rfl, ?_⟩; have HO112 := aL ho0 HB; have HO115 := aL ho1 HB; replace BK101 := aK BK101 hb; replace BK102 := aK BK102 hb; replace BK106 := aK BK106 hb; replace HB := aB HB hb; (try clear hb); (try clear hb2); (try clear hk); (try clear hi); (try clear ho0); (try clear ho1); have hnb25 := NB102_101.out; have hnc25 := NB101_102.out; have hcz26_0 : w24.cell? ⟨gb102, 0, none⟩ = some (.int .u64 x103000_1) := (blk_cell BK102.out 0).trans rfl; have hcz26_1 : w24.cell? ⟨gb102, 1, none⟩ = some (.int .u64 x103001_1) := (blk_cell BK102.out 1).trans rfl; have hcz26_2 : w24.cell? ⟨gb102, 2, none⟩ = some (.int .u64 x103002_1) := (blk_cell BK102.out 2).trans rfl; have hcz26_3 : w24.cell? ⟨gb102, 3, none⟩ = some (.slice none 0 0) := (blk_cell BK102.out 3).trans rfl; have hcz26_4 : w24.cell? ⟨gb102, 4, none⟩ = some (.slice none 0 0) := (blk_cell BK102.out 4).trans rfl; have hfz26_0 := blk_frozen BK102.out 0; have hfz26_1 := blk_frozen BK102.out 1; have hfz26_2 := blk_frozen BK102.out 2; have hfz26_3 := blk_frozen BK102.out 3; have hfz26_4 := blk_frozen BK102.out 4; obtain ⟨Ao27, co27, eo27⟩ := Kd.R_slice HO112.out; subst eo27; obtain ⟨Ao28, co28, eo28⟩ := Kd.R_slice HO115.out; subst eo28))
      (try simp only [Exit.then, Exit.inBlock, Lab.gotos])
      refine bodyPost_ret (results_ct rfl _ _ gb102 40 #[.int .u64 t107, .int .u64 t108, .int .u64 t109, .slice Ao27 t110.length co27, .slice Ao28 t113.length co28] (0, 0) _ rfl (by (with_reducible repeat (first | refine blk_drewN ?_ _ | refine blk_drew ?_ | refine blk_alloc ?_ _)); refine blk_put (cs := #[.int .u64 t107, .int .u64 t108, .int .u64 t109, .slice Ao27 t110.length co27, .slice none 0 0]) ?_ 4 _ rfl; (with_reducible repeat (first | refine blk_drewN ?_ _ | refine blk_drew ?_ | refine blk_alloc ?_ _)); refine blk_put (cs := #[.int .u64 t107, .int .u64 t108, .int .u64 t109, .slice none 0 0, .slice none 0 0]) ?_ 3 _ rfl; (with_reducible repeat (first | refine blk_drewN ?_ _ | refine blk_drew ?_ | refine blk_alloc ?_ _)); refine blk_put (cs := #[.int .u64 t107, .int .u64 t108, .int .u64 x103002_1, .slice none 0 0, .slice none 0 0]) ?_ 2 _ rfl; (with_reducible repeat (first | refine blk_drewN ?_ _ | refine blk_drew ?_ | refine blk_alloc ?_ _)); refine blk_put (cs := #[.int .u64 t107, .int .u64 x103001_1, .int .u64 x103002_1, .slice none 0 0, .slice none 0 0]) ?_ 1 _ rfl; (with_reducible repeat (first | refine blk_drewN ?_ _ | refine blk_drew ?_ | refine blk_alloc ?_ _)); refine blk_put (cs := #[.int .u64 x103000_1, .int .u64 x103001_1, .int .u64 x103002_1, .slice none 0 0, .slice none 0 0]) ?_ 0 _ rfl; (with_reducible repeat (first | refine blk_drewN ?_ _ | refine blk_drew ?_ | refine blk_alloc ?_ _)); exact BK102.out) Tryd.underlying40 rfl (by kernel_rfl)) rfl ?_
      exact ⟨_, _, by first | rfl | (simp [errW_none, errW_some] <;> rfl) | (simp [*, errW_none, errW_some] <;> rfl), by (with_reducible repeat (first | apply Kd.R_alloc | apply Kd.R_drewN | apply Kd.R_drew)); exact Kd.R_mono (aG HO112 BK102) (fun _ hk => hk.1), by (with_reducible repeat (first | apply Kd.R_alloc | apply Kd.R_drewN | apply Kd.R_drew)); exact Kd.R_mono (aG HO115 BK102) (fun _ hk => hk.1), bB⟩
    ·rw [if_neg c13] at H
     have c13b0 : (x5_1 == 0) = false := beq_eq_false_iff_ne.mpr c13
     have c13b1 : (x5_1 != 0) = true := bne_iff_ne.mpr c13
     by_cases c29 : x5_1 = 1
     ·rw [if_pos c29] at H
      have c29b0 : (x5_1 == 1) = true := beq_iff_eq.mpr c29
      have c29b1 : (x5_1 != 1) = false := bne_eq_false_iff_eq.mpr c29
      clear c29
      by_cases c30 : t104 = 0
      ·rw [if_pos c30] at H
       have c30b0 : (t104 == 0) = true := beq_iff_eq.mpr c30
       have c30b1 : (t104 != 0) = false := bne_eq_false_iff_eq.mpr c30
       clear c30
       have H' := Aside0.mk H
       clear H
       have ix31 : (x5_1 : Int) = 1 := (by first | (with_reducible assumption) | assumption | exact eq_of_beq bA | omega)
       have p31 : (0 ≤ (x5_1 : Int)) = True := eq_true (by omega)
       have q31 : ((x5_1 : Int) < 3) = True := eq_true (by omega)
       have t31 : (x5_1 : Int).toNat = 1 := (by omega)
       clear ix31
       have hnb32 := NB106_101.out
       have hnc32 := NB101_106.out
       have hnb33 := NB106_102.out
       have hnc33 := NB102_106.out
       have hcz34_0 : wr.cell? ⟨gb106, 0, none⟩ = some (.int .u64 t103) := (blk_cell BK106.out 0).trans rfl
       have hcz34_1 : wr.cell? ⟨gb106, 1, none⟩ = some (.int .u64 t104) := (blk_cell BK106.out 1).trans rfl
       have hcz34_2 : wr.cell? ⟨gb106, 2, none⟩ = some (.int .u64 t105) := (blk_cell BK106.out 2).trans rfl
       have hfz34_0 := blk_frozen BK106.out 0
       have hfz34_1 := blk_frozen BK106.out 1
       have hfz34_2 := blk_frozen BK106.out 2
       go_wp2
       go_step3
       (try simp only [Exit.then, Exit.inBlock, Lab.gotos])
       refine Lab.again HIH_0 k1 ?lm1 ?lm2 ?lm3
       case lm1 => have := HK1.out; omega
       case lm2 => have := HK1.out; omega
       case lm3 =>
        (repeat apply Exists.intro)
        refine ⟨?rel, ?fr⟩
        case fr => (simp only [Act.put, List.setIfInBounds_toArray, List.set_cons_zero, List.set_cons_succ] <;> rfl)
        case rel => exact ⟨(wrap64 (x5_1 + 1)), (x103000_1), (x103001_1), (x103002_1), bS, H', ⟨by have := HK1.out; omega⟩, ⟨aKw BK101⟩, ⟨aKw BK102⟩, ⟨aKw BK106⟩, ⟨bB⟩⟩
      ·rw [if_neg c30] at H
       have c30b0 : (t104 == 0) = false := beq_eq_false_iff_ne.mpr c30
       have c30b1 : (t104 != 0) = true := bne_iff_ne.mpr c30
       replace H := Option.bind_eq_some_iff.mp H
       obtain ⟨⟨t117, t118, t119, t120, t123, t126⟩, A350, H⟩ := H
       replace H : (some (t117, t118, t119, t120, t123, t126)) = some (r1, r2, r3, r4, r5, r6) := H
       have A35 := Aside0.mk A350
       clear A350
       simp only [Option.some.injEq, Prod.mk.injEq] at H
       obtain ⟨rfl, rfl, rfl, rfl, rfl, rfl⟩ := H
       have ix36 : (x5_1 : Int) = 1 := (by first | (with_reducible assumption) | assumption | exact eq_of_beq bA | omega)
       have p36 : (0 ≤ (x5_1 : Int)) = True := eq_true (by omega)
       have q36 : ((x5_1 : Int) < 3) = True := eq_true (by omega)
       have t36 : (x5_1 : Int).toNat = 1 := (by omega)
       clear ix36
       have hnb37 := NB106_101.out
       have hnc37 := NB101_106.out
       have hnb38 := NB106_102.out
       have hnc38 := NB102_106.out
       have hcz39_0 : wr.cell? ⟨gb106, 0, none⟩ = some (.int .u64 t103) := (blk_cell BK106.out 0).trans rfl
       have hcz39_1 : wr.cell? ⟨gb106, 1, none⟩ = some (.int .u64 t104) := (blk_cell BK106.out 1).trans rfl
       have hcz39_2 : wr.cell? ⟨gb106, 2, none⟩ = some (.int .u64 t105) := (blk_cell BK106.out 2).trans rfl
       have hfz39_0 := blk_frozen BK106.out 0
       have hfz39_1 := blk_frozen BK106.out 1
       have hfz39_2 := blk_frozen BK106.out 2
       go_wp2_with (first | ((with_reducible refine gate_callee (f := 57) rfl ?_); refine goesL_ (some 20) rfl rfl Tryd.func57 (by kernel_rfl) rfl #[.agg #[.int .u64 t103, .int .u64 t104, .int .u64 t105], .int .i64 x5_1] rfl bM ?_; (with_reducible refine (prec_end.calls k1 t103 t104 t105 x5_1 t117 t118 t119 t120 t123 t126 _ A35.out).mono ?_); rintro e w40 ⟨v121, v124, rfl, ho0, ho1, hb⟩; refine ⟨_, rfl, ?_⟩; have HO122 := aL ho0 HB; have HO125 := aL ho1 HB; replace BK101 := aK BK101 hb; replace BK102 := aK BK102 hb; replace BK106 := aK BK106 hb; replace HB := aB HB hb; (try clear hb); (try clear hb2); (try clear hk); (try clear hi); (try clear ho0); (try clear ho1); have hnb41 := NB102_101.out; have hnc41 := NB101_102.out; have hcz42_0 : w40.cell? ⟨gb102, 0, none⟩ = some (.int .u64 x103000_1) := (blk_cell BK102.out 0).trans rfl; have hcz42_1 : w40.cell? ⟨gb102, 1, none⟩ = some (.int .u64 x103001_1) := (blk_cell BK102.out 1).trans rfl; have hcz42_2 : w40.cell? ⟨gb102, 2, none⟩ = some (.int .u64 x103002_1) := (blk_cell BK102.out 2).trans rfl; have hcz42_3 : w40.cell? ⟨gb102, 3, none⟩ = some (.slice none 0 0) := (blk_cell BK102.out 3).trans rfl; have hcz42_4 : w40.cell? ⟨gb102, 4, none⟩ = some (.slice none 0 0) := (blk_cell BK102.out 4).trans rfl; have hfz42_0 := blk_frozen BK102.out 0; have hfz42_1 := blk_frozen BK102.out 1; have hfz42_2 := blk_frozen BK102.out 2; have hfz42_3 := blk_frozen BK102.out 3; have hfz42_4 := blk_frozen BK102.out 4; obtain ⟨Ao43, co43, eo43⟩ := Kd.R_slice HO122.out; subst eo43; obtain ⟨Ao44, co44, eo44⟩ := Kd.R_slice HO125.out; subst eo44))
       (try simp only [Exit.then, Exit.inBlock, Lab.gotos])
       refine bodyPost_ret (results_ct rfl _ _ gb102 40 #[.int .u64 t117, .int .u64 t118, .int .u64 t119, .slice Ao43 t120.length co43, .slice Ao44 t123.length co44] (0, 0) _ rfl (by (with_reducible repeat (first | refine blk_drewN ?_ _ | refine blk_drew ?_ | refine blk_alloc ?_ _)); refine blk_put (cs := #[.int .u64 t117, .int .u64 t118, .int .u64 t119, .slice Ao43 t120.length co43, .slice none 0 0]) ?_ 4 _ rfl; (with_reducible repeat (first | refine blk_drewN ?_ _ | refine blk_drew ?_ | refine blk_alloc ?_ _)); refine blk_put (cs := #[.int .u64 t117, .int .u64 t118, .int .u64 t119, .slice none 0 0, .slice none 0 0]) ?_ 3 _ rfl; (with_reducible repeat (first | refine blk_drewN ?_ _ | refine blk_drew ?_ | refine blk_alloc ?_ _)); refine blk_put (cs := #[.int .u64 t117, .int .u64 t118, .int .u64 x103002_1, .slice none 0 0, .slice none 0 0]) ?_ 2 _ rfl; (with_reducible repeat (first | refine blk_drewN ?_ _ | refine blk_drew ?_ | refine blk_alloc ?_ _)); refine blk_put (cs := #[.int .u64 t117, .int .u64 x103001_1, .int .u64 x103002_1, .slice none 0 0, .slice none 0 0]) ?_ 1 _ rfl; (with_reducible repeat (first | refine blk_drewN ?_ _ | refine blk_drew ?_ | refine blk_alloc ?_ _)); refine blk_put (cs := #[.int .u64 x103000_1, .int .u64 x103001_1, .int .u64 x103002_1, .slice none 0 0, .slice none 0 0]) ?_ 0 _ rfl; (with_reducible repeat (first | refine blk_drewN ?_ _ | refine blk_drew ?_ | refine blk_alloc ?_ _)); exact BK102.out) Tryd.underlying40 rfl (by kernel_rfl)) rfl ?_
       exact ⟨_, _, by first | rfl | (simp [errW_none, errW_some] <;> rfl) | (simp [*, errW_none, errW_some] <;> rfl), by (with_reducible repeat (first | apply Kd.R_alloc | apply Kd.R_drewN | apply Kd.R_drew)); exact Kd.R_mono (aG HO122 BK102) (fun _ hk => hk.1), by (with_reducible repeat (first | apply Kd.R_alloc | apply Kd.R_drewN | apply Kd.R_drew)); exact Kd.R_mono (aG HO125 BK102) (fun _ hk => hk.1), bB⟩
     ·rw [if_neg c29] at H
      have c29b0 : (x5_1 == 1) = false := beq_eq_false_iff_ne.mpr c29
      have c29b1 : (x5_1 != 1) = true := bne_iff_ne.mpr c29
      by_cases c45 : x5_1 = 2
      ·rw [if_pos c45] at H
       have c45b0 : (x5_1 == 2) = true := beq_iff_eq.mpr c45
       have c45b1 : (x5_1 != 2) = false := bne_eq_false_iff_eq.mpr c45
       clear c45
       by_cases c46 : t105 = 0
       ·rw [if_pos c46] at H
        have c46b0 : (t105 == 0) = true := beq_iff_eq.mpr c46
        have c46b1 : (t105 != 0) = false := bne_eq_false_iff_eq.mpr c46
        clear c46
        have H' := Aside0.mk H
        clear H
        have ix47 : (x5_1 : Int) = 2 := (by first | (with_reducible assumption) | assumption | exact eq_of_beq bA | omega)
        have p47 : (0 ≤ (x5_1 : Int)) = True := eq_true (by omega)
        have q47 : ((x5_1 : Int) < 3) = True := eq_true (by omega)
        have t47 : (x5_1 : Int).toNat = 2 := (by omega)
        clear ix47
        have hnb48 := NB106_101.out
        have hnc48 := NB101_106.out
        have hnb49 := NB106_102.out
        have hnc49 := NB102_106.out
        have hcz50_0 : wr.cell? ⟨gb106, 0, none⟩ = some (.int .u64 t103) := (blk_cell BK106.out 0).trans rfl
        have hcz50_1 : wr.cell? ⟨gb106, 1, none⟩ = some (.int .u64 t104) := (blk_cell BK106.out 1).trans rfl
        have hcz50_2 : wr.cell? ⟨gb106, 2, none⟩ = some (.int .u64 t105) := (blk_cell BK106.out 2).trans rfl
        have hfz50_0 := blk_frozen BK106.out 0
        have hfz50_1 := blk_frozen BK106.out 1
        have hfz50_2 := blk_frozen BK106.out 2
        go_wp2
        go_step3
        (try simp only [Exit.then, Exit.inBlock, Lab.gotos])
        refine Lab.again HIH_0 k1 ?lm1 ?lm2 ?lm3
        case lm1 => have := HK1.out; omega
        case lm2 => have := HK1.out; omega
        case lm3 =>
         (repeat apply Exists.intro)
         refine ⟨?rel, ?fr⟩
         case fr => (simp only [Act.put, List.setIfInBounds_toArray, List.set_cons_zero, List.set_cons_succ] <;> rfl)
         case rel => exact ⟨(wrap64 (x5_1 + 1)), (x103000_1), (x103001_1), (x103002_1), bS, H', ⟨by have := HK1.out; omega⟩, ⟨aKw BK101⟩, ⟨aKw BK102⟩, ⟨aKw BK106⟩, ⟨bB⟩⟩
       ·rw [if_neg c46] at H
        have c46b0 : (t105 == 0) = false := beq_eq_false_iff_ne.mpr c46
        have c46b1 : (t105 != 0) = true := bne_iff_ne.mpr c46
        replace H := Option.bind_eq_some_iff.mp H
        obtain ⟨⟨t127, t128, t129, t130, t133, t136⟩, A510, H⟩ := H
        replace H : (some (t127, t128, t129, t130, t133, t136)) = some (r1, r2, r3, r4, r5, r6) := H
        have A51 := Aside0.mk A510
        clear A510
        simp only [Option.some.injEq, Prod.mk.injEq] at H
        obtain ⟨rfl, rfl, rfl, rfl, rfl, rfl⟩ := H
        have ix52 : (x5_1 : Int) = 2 := (by first | (with_reducible assumption) | assumption | exact eq_of_beq bA | omega)
        have p52 : (0 ≤ (x5_1 : Int)) = True := eq_true (by omega)
        have q52 : ((x5_1 : Int) < 3) = True := eq_true (by omega)
        have t52 : (x5_1 : Int).toNat = 2 := (by omega)
        clear ix52
        have hnb53 := NB106_101.out
        have hnc53 := NB101_106.out
        have hnb54 := NB106_102.out
        have hnc54 := NB102_106.out
        have hcz55_0 : wr.cell? ⟨gb106, 0, none⟩ = some (.int .u64 t103) := (blk_cell BK106.out 0).trans rfl
        have hcz55_1 : wr.cell? ⟨gb106, 1, none⟩ = some (.int .u64 t104) := (blk_cell BK106.out 1).trans rfl
        have hcz55_2 : wr.cell? ⟨gb106, 2, none⟩ = some (.int .u64 t105) := (blk_cell BK106.out 2).trans rfl
        have hfz55_0 := blk_frozen BK106.out 0
        have hfz55_1 := blk_frozen BK106.out 1
        have hfz55_2 := blk_frozen BK106.out 2
        go_wp2_with (first | ((with_reducible refine gate_callee (f := 57) rfl ?_); refine goesL_ (some 20) rfl rfl Tryd.func57 (by kernel_rfl) rfl #[.agg #[.int .u64 t103, .int .u64 t104, .int .u64 t105], .int .i64 x5_1] rfl bM ?_; (with_reducible refine (prec_end.calls k1 t103 t104 t105 x5_1 t127 t128 t129 t130 t133 t136 _ A51.out).mono ?_); rintro e w56 ⟨v131, v134, rfl, ho0, ho1, hb⟩; refine ⟨_, rfl, ?_⟩; have HO132 := aL ho0 HB; have HO135 := aL ho1 HB; replace BK101 := aK BK101 hb; replace BK102 := aK BK102 hb; replace BK106 := aK BK106 hb; replace HB := aB HB hb; (try clear hb); (try clear hb2); (try clear hk); (try clear hi); (try clear ho0); (try clear ho1); have hnb57 := NB102_101.out; have hnc57 := NB101_102.out; have hcz58_0 : w56.cell? ⟨gb102, 0, none⟩ = some (.int .u64 x103000_1) := (blk_cell BK102.out 0).trans rfl; have hcz58_1 : w56.cell? ⟨gb102, 1, none⟩ = some (.int .u64 x103001_1) := (blk_cell BK102.out 1).trans rfl; have hcz58_2 : w56.cell? ⟨gb102, 2, none⟩ = some (.int .u64 x103002_1) := (blk_cell BK102.out 2).trans rfl; have hcz58_3 : w56.cell? ⟨gb102, 3, none⟩ = some (.slice none 0 0) := (blk_cell BK102.out 3).trans rfl; have hcz58_4 : w56.cell? ⟨gb102, 4, none⟩ = some (.slice none 0 0) := (blk_cell BK102.out 4).trans rfl; have hfz58_0 := blk_frozen BK102.out 0; have hfz58_1 := blk_frozen BK102.out 1; have hfz58_2 := blk_frozen BK102.out 2; have hfz58_3 := blk_frozen BK102.out 3; have hfz58_4 := blk_frozen BK102.out 4; obtain ⟨Ao59, co59, eo59⟩ := Kd.R_slice HO132.out; subst eo59; obtain ⟨Ao60, co60, eo60⟩ := Kd.R_slice HO135.out; subst eo60))
        (try simp only [Exit.then, Exit.inBlock, Lab.gotos])
        refine bodyPost_ret (results_ct rfl _ _ gb102 40 #[.int .u64 t127, .int .u64 t128, .int .u64 t129, .slice Ao59 t130.length co59, .slice Ao60 t133.length co60] (0, 0) _ rfl (by (with_reducible repeat (first | refine blk_drewN ?_ _ | refine blk_drew ?_ | refine blk_alloc ?_ _)); refine blk_put (cs := #[.int .u64 t127, .int .u64 t128, .int .u64 t129, .slice Ao59 t130.length co59, .slice none 0 0]) ?_ 4 _ rfl; (with_reducible repeat (first | refine blk_drewN ?_ _ | refine blk_drew ?_ | refine blk_alloc ?_ _)); refine blk_put (cs := #[.int .u64 t127, .int .u64 t128, .int .u64 t129, .slice none 0 0, .slice none 0 0]) ?_ 3 _ rfl; (with_reducible repeat (first | refine blk_drewN ?_ _ | refine blk_drew ?_ | refine blk_alloc ?_ _)); refine blk_put (cs := #[.int .u64 t127, .int .u64 t128, .int .u64 x103002_1, .slice none 0 0, .slice none 0 0]) ?_ 2 _ rfl; (with_reducible repeat (first | refine blk_drewN ?_ _ | refine blk_drew ?_ | refine blk_alloc ?_ _)); refine blk_put (cs := #[.int .u64 t127, .int .u64 x103001_1, .int .u64 x103002_1, .slice none 0 0, .slice none 0 0]) ?_ 1 _ rfl; (with_reducible repeat (first | refine blk_drewN ?_ _ | refine blk_drew ?_ | refine blk_alloc ?_ _)); refine blk_put (cs := #[.int .u64 x103000_1, .int .u64 x103001_1, .int .u64 x103002_1, .slice none 0 0, .slice none 0 0]) ?_ 0 _ rfl; (with_reducible repeat (first | refine blk_drewN ?_ _ | refine blk_drew ?_ | refine blk_alloc ?_ _)); exact BK102.out) Tryd.underlying40 rfl (by kernel_rfl)) rfl ?_
        exact ⟨_, _, by first | rfl | (simp [errW_none, errW_some] <;> rfl) | (simp [*, errW_none, errW_some] <;> rfl), by (with_reducible repeat (first | apply Kd.R_alloc | apply Kd.R_drewN | apply Kd.R_drew)); exact Kd.R_mono (aG HO132 BK102) (fun _ hk => hk.1), by (with_reducible repeat (first | apply Kd.R_alloc | apply Kd.R_drewN | apply Kd.R_drew)); exact Kd.R_mono (aG HO135 BK102) (fun _ hk => hk.1), bB⟩
      ·rw [if_neg c45] at H
       exact absurd H (by simp)
   ·rw [if_neg c12] at H
    have c12b0 : decide (x5_1 < 2) = false := decide_eq_false c12
    clear c12
    replace H := Option.bind_eq_some_iff.mp H
    obtain ⟨⟨t137, t138, t139, t140, t143, t146⟩, A610, H⟩ := H
    replace H : (some (t137, t138, t139, t140, t143, t146)) = some (r1, r2, r3, r4, r5, r6) := H
    have A61 := Aside0.mk A610
    clear A610
    simp only [Option.some.injEq, Prod.mk.injEq] at H
    obtain ⟨rfl, rfl, rfl, rfl, rfl, rfl⟩ := H
    have hnb62 := NB106_101.out
    have hnc62 := NB101_106.out
    have hnb63 := NB106_102.out
    have hnc63 := NB102_106.out
    have hcz64_0 : wr.cell? ⟨gb106, 0, none⟩ = some (.int .u64 t103) := (blk_cell BK106.out 0).trans rfl
    have hcz64_1 : wr.cell? ⟨gb106, 1, none⟩ = some (.int .u64 t104) := (blk_cell BK106.out 1).trans rfl
    have hcz64_2 : wr.cell? ⟨gb106, 2, none⟩ = some (.int .u64 t105) := (blk_cell BK106.out 2).trans rfl
    have hfz64_0 := blk_frozen BK106.out 0
    have hfz64_1 := blk_frozen BK106.out 1
    have hfz64_2 := blk_frozen BK106.out 2
    go_wp2_with (first | ((with_reducible refine gate_callee (f := 57) rfl ?_); refine goesL_ (some 20) rfl rfl Tryd.func57 (by kernel_rfl) rfl #[.agg #[.int .u64 t103, .int .u64 t104, .int .u64 t105], .int .i64 x5_1] rfl bM ?_; (with_reducible refine (prec_end.calls k1 t103 t104 t105 x5_1 t137 t138 t139 t140 t143 t146 _ A61.out).mono ?_); rintro e w65 ⟨v141, v144, rfl, ho0, ho1, hb⟩; refine ⟨_, rfl, ?_⟩; have HO142 := aL ho0 HB; have HO145 := aL ho1 HB; replace BK101 := aK BK101 hb; replace BK102 := aK BK102 hb; replace BK106 := aK BK106 hb; replace HB := aB HB hb; (try clear hb); (try clear hb2); (try clear hk); (try clear hi); (try clear ho0); (try clear ho1); have hnb66 := NB102_101.out; have hnc66 := NB101_102.out; have hcz67_0 : w65.cell? ⟨gb102, 0, none⟩ = some (.int .u64 x103000_1) := (blk_cell BK102.out 0).trans rfl; have hcz67_1 : w65.cell? ⟨gb102, 1, none⟩ = some (.int .u64 x103001_1) := (blk_cell BK102.out 1).trans rfl; have hcz67_2 : w65.cell? ⟨gb102, 2, none⟩ = some (.int .u64 x103002_1) := (blk_cell BK102.out 2).trans rfl; have hcz67_3 : w65.cell? ⟨gb102, 3, none⟩ = some (.slice none 0 0) := (blk_cell BK102.out 3).trans rfl; have hcz67_4 : w65.cell? ⟨gb102, 4, none⟩ = some (.slice none 0 0) := (blk_cell BK102.out 4).trans rfl; have hfz67_0 := blk_frozen BK102.out 0; have hfz67_1 := blk_frozen BK102.out 1; have hfz67_2 := blk_frozen BK102.out 2; have hfz67_3 := blk_frozen BK102.out 3; have hfz67_4 := blk_frozen BK102.out 4; obtain ⟨Ao68, co68, eo68⟩ := Kd.R_slice HO142.out; subst eo68; obtain ⟨Ao69, co69, eo69⟩ := Kd.R_slice HO145.out; subst eo69))
    (try simp only [Exit.then, Exit.inBlock, Lab.gotos])
    refine bodyPost_ret (results_ct rfl _ _ gb102 40 #[.int .u64 t137, .int .u64 t138, .int .u64 t139, .slice Ao68 t140.length co68, .slice Ao69 t143.length co69] (0, 0) _ rfl (by (with_reducible repeat (first | refine blk_drewN ?_ _ | refine blk_drew ?_ | refine blk_alloc ?_ _)); refine blk_put (cs := #[.int .u64 t137, .int .u64 t138, .int .u64 t139, .slice Ao68 t140.length co68, .slice none 0 0]) ?_ 4 _ rfl; (with_reducible repeat (first | refine blk_drewN ?_ _ | refine blk_drew ?_ | refine blk_alloc ?_ _)); refine blk_put (cs := #[.int .u64 t137, .int .u64 t138, .int .u64 t139, .slice none 0 0, .slice none 0 0]) ?_ 3 _ rfl; (with_reducible repeat (first | refine blk_drewN ?_ _ | refine blk_drew ?_ | refine blk_alloc ?_ _)); refine blk_put (cs := #[.int .u64 t137, .int .u64 t138, .int .u64 x103002_1, .slice none 0 0, .slice none 0 0]) ?_ 2 _ rfl; (with_reducible repeat (first | refine blk_drewN ?_ _ | refine blk_drew ?_ | refine blk_alloc ?_ _)); refine blk_put (cs := #[.int .u64 t137, .int .u64 x103001_1, .int .u64 x103002_1, .slice none 0 0, .slice none 0 0]) ?_ 1 _ rfl; (with_reducible repeat (first | refine blk_drewN ?_ _ | refine blk_drew ?_ | refine blk_alloc ?_ _)); refine blk_put (cs := #[.int .u64 x103000_1, .int .u64 x103001_1, .int .u64 x103002_1, .slice none 0 0, .slice none 0 0]) ?_ 0 _ rfl; (with_reducible repeat (first | refine blk_drewN ?_ _ | refine blk_drew ?_ | refine blk_alloc ?_ _)); exact BK102.out) Tryd.underlying40 rfl (by kernel_rfl)) rfl ?_
    exact ⟨_, _, by first | rfl | (simp [errW_none, errW_some] <;> rfl) | (simp [*, errW_none, errW_some] <;> rfl), by (with_reducible repeat (first | apply Kd.R_alloc | apply Kd.R_drewN | apply Kd.R_drew)); exact Kd.R_mono (aG HO142 BK102) (fun _ hk => hk.1), by (with_reducible repeat (first | apply Kd.R_alloc | apply Kd.R_drewN | apply Kd.R_drew)); exact Kd.R_mono (aG HO145 BK102) (fun _ hk => hk.1), bB⟩

end Go.Proofs.YtildmfegfkiknaaDoor.X
