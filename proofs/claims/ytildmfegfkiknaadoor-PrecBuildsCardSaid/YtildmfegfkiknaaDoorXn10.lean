-- Written by a program of this session (wip/xp), out of the translation. Not trusted: Lean checks it.
import Derived.Test.YtildmfegfkiknaaDoorX0
import Derived.Test.YtildmfegfkiknaaDoorXn31
import Derived.Test.YtildmfegfkiknaaDoorXn21
import Derived.Test.YtildmfegfkiknaaDoorXn22
import Derived.Test.YtildmfegfkiknaaDoorXn38
-- shrunk
namespace Go.Proofs.YtildmfegfkiknaaDoor.X
open Go.RowKit Go.Proofs.YtildmfegfkiknaaDoorW.PrintWords Go.Proofs.YtildmfegfkiknaaDoorW.PrintLast Go.Proofs.YtildmfegfkiknaaDoorW.PrintMore
attribute [local go_sem] Lab.str_gtr Lab.str_leq Lab.str_geq max2_int min2_int max_two min_two max_three min_three max_four min_four   -- for this text's walks alone
set_option linter.unusedVariables false
set_option linter.unusedSimpArgs false

/-! ### ferrulelaw04_PrecBuilds: function 10 -/
def ferrulelaw04_PrecBuilds.j0 : Nat → Bool → Int → Int → Int → List ByteArray → List ByteArray → Int → Int → Int → List ByteArray → List ByteArray → Option (Bool)
 | 0, _, _, _, _, _, _, _, _, _, _, _ => none
 | k + 1, x15, x102000, x102001, x102002, x102003, x102004, x103000, x103001, x103002, x103003, x103004 => if x15 = true then (some true) else ((prec_Compare.f k x102000 x102001 x102002 x102003 x102004 x103000 x103001 x103002 x103003 x103004).bind fun t107 => ((prec_Compare.f k x102000 x102001 x102002 x102003 ([] : List ByteArray) x103000 x103001 x103002 x103003 x103004).bind fun t108 => (if t107 = t108 then ((prec_Compare.f k x102000 x102001 x102002 x102003 x102004 x102000 x102001 x102002 x102003 ([] : List ByteArray)).bind fun t109 => (if t109 = 0 then ((prec_Full.f k x102000 x102001 x102002 x102003 ([] : List ByteArray) x102000 x102001 x102002 x102003 x102004).bind fun t110 => (if t110 ≤ 0 then ((prec_Full.f k x102000 x102001 x102002 x102003 ([] : List ByteArray) x102000 x102001 x102002 x102003 x102004).bind fun t111 => (some ((t111 == 0) == ((x102004.length : Int) == 0)))) else (some false))) else (some false))) else (some false))))
def ferrulelaw04_PrecBuilds.f (k : Nat) (a0_0 : Int) (a0_1 : Int) (a0_2 : Int) (l0_3 : List ByteArray) (l0_4 : List ByteArray) (a1_0 : Int) (a1_1 : Int) (a1_2 : Int) (l1_3 : List ByteArray) (l1_4 : List ByteArray) : Option (Bool) := (ferrulelaw04_awake.f k).bind fun t103 => (if t103 = true then ((ferrulelaw04_short.f k a0_0 a0_1 a0_2 l0_3 l0_4).bind fun t104 => (if t104 = true then ((ferrulelaw04_short.f k a1_0 a1_1 a1_2 l1_3 l1_4).bind fun t105 => (ferrulelaw04_PrecBuilds.j0 k (!t105) a0_0 a0_1 a0_2 l0_3 l0_4 a1_0 a1_1 a1_2 l1_3 l1_4)) else (ferrulelaw04_PrecBuilds.j0 k true a0_0 a0_1 a0_2 l0_3 l0_4 a1_0 a1_1 a1_2 l1_3 l1_4))) else (some false))
theorem ferrulelaw04_PrecBuilds.mono_l : ∀ k, (∀ y0 y1 y2 y3 y4 y5 y6 y7 y8 y9 y10, LeO (ferrulelaw04_PrecBuilds.j0 k y0 y1 y2 y3 y4 y5 y6 y7 y8 y9 y10) (ferrulelaw04_PrecBuilds.j0 (k + 1) y0 y1 y2 y3 y4 y5 y6 y7 y8 y9 y10))
 | 0 => fun _ _ _ _ _ _ _ _ _ _ _ r h => by simp [ferrulelaw04_PrecBuilds.j0] at h
 | k + 1 => by
  have ih0 := ferrulelaw04_PrecBuilds.mono_l k
  ·intro y0 y1 y2 y3 y4 y5 y6 y7 y8 y9 y10
   unfold ferrulelaw04_PrecBuilds.j0
   repeat' first
   | (with_reducible exact ih0 _ _ _ _ _ _ _ _ _ _ _)
   | (with_reducible exact ferrulelaw04_awake.mono _)
   | (with_reducible exact ferrulelaw04_short.mono _ _ _ _ _ _)
   | (with_reducible exact prec_Compare.mono _ _ _ _ _ _ _ _ _ _ _)
   | (with_reducible exact prec_Full.mono _ _ _ _ _ _ _ _ _ _ _)
   | (with_reducible exact LeO.refl _)
   | (with_reducible exact LeO.none _)
   | (with_reducible refine LeO.ite ?_ ?_)
   | (with_reducible refine LeO.bind ?_ (fun _ => ?_))
   | exact ih0 _ _ _ _ _ _ _ _ _ _ _
   | exact ferrulelaw04_awake.mono _
   | exact ferrulelaw04_short.mono _ _ _ _ _ _
   | exact prec_Compare.mono _ _ _ _ _ _ _ _ _ _ _
   | exact prec_Full.mono _ _ _ _ _ _ _ _ _ _ _
   | exact LeO.none _
   | refine LeO.ite ?_ ?_
   | refine LeO.bind ?_ (fun _ => ?_)
theorem ferrulelaw04_PrecBuilds.mono : ∀ a0 a1 a2 a3 a4 a5 a6 a7 a8 a9 k, LeO (ferrulelaw04_PrecBuilds.f k a0 a1 a2 a3 a4 a5 a6 a7 a8 a9) (ferrulelaw04_PrecBuilds.f (k + 1) a0 a1 a2 a3 a4 a5 a6 a7 a8 a9) := by
 intro a0 a1 a2 a3 a4 a5 a6 a7 a8 a9 k
 have ih0 := ferrulelaw04_PrecBuilds.mono_l k
 unfold ferrulelaw04_PrecBuilds.f
 repeat' first
   | (with_reducible exact ih0 _ _ _ _ _ _ _ _ _ _ _)
   | (with_reducible exact ferrulelaw04_awake.mono _)
   | (with_reducible exact ferrulelaw04_short.mono _ _ _ _ _ _)
   | (with_reducible exact prec_Compare.mono _ _ _ _ _ _ _ _ _ _ _)
   | (with_reducible exact prec_Full.mono _ _ _ _ _ _ _ _ _ _ _)
   | (with_reducible exact LeO.refl _)
   | (with_reducible exact LeO.none _)
   | (with_reducible refine LeO.ite ?_ ?_)
   | (with_reducible refine LeO.bind ?_ (fun _ => ?_))
   | exact ih0 _ _ _ _ _ _ _ _ _ _ _
   | exact ferrulelaw04_awake.mono _
   | exact ferrulelaw04_short.mono _ _ _ _ _ _
   | exact prec_Compare.mono _ _ _ _ _ _ _ _ _ _ _
   | exact prec_Full.mono _ _ _ _ _ _ _ _ _ _ _
   | exact LeO.none _
   | refine LeO.ite ?_ ?_
   | refine LeO.bind ?_ (fun _ => ?_)
def ferrulelaw04_PrecBuilds.T7 : Bool × List (List Nat × List Nat) := (true, [([], []), ([], []), ([0, 1], [0, 1]), ([], []), ([], []), ([3, 4, 2], [3, 4]), ([2, 5], [2, 5]), ([6, 5], [6]), ([7], [7]), ([7], [7]), ([8, 9, 7, 7], [7, 8, 9]), ([10, 7], [7, 10]), ([7, 11], [7, 11]), ([12, 10], [12]), ([13], [13]), ([13], [13]), ([14, 15, 13, 13], [13, 14, 15]), ([16, 13], [13, 16]), ([13, 17], [13, 17]), ([18, 16], [18]), ([19], [19]), ([19], [19]), ([20, 21, 19, 19], [19, 20, 21]), ([22, 19], [19, 22]), ([19], [19]), ([24, 19], [19, 24]), ([25, 19], [19, 25]), ([26, 19], [19, 26]), ([23, 27, 19], [19, 23, 27]), ([19, 28], [19, 28]), ([29, 22, 0, 1, 2, 3, 4, 5, 6, 7, 8, 9, 10, 11, 12, 13, 14, 15, 16, 17, 18, 19, 20, 21, 22, 23, 24, 25, 26, 27, 28, 29], [29])])
def ferrulelaw04_PrecBuilds.B7 : List Nat := [0, 0, 3, 0, 0, 31, 63, 127, 255, 255, 1023, 2047, 4095, 8191, 16383, 16383, 65535, 131071, 262143, 524287, 1048575, 1048575, 4194303, 8388607, 1048575, 17825791, 51380223, 118489087, 268435455, 536870911, 1073741823]
theorem ferrulelaw04_PrecBuilds.tab7 : rtab .any (opsOf Tryd.f10 7) = ferrulelaw04_PrecBuilds.T7 := by kernel_rfl
theorem ferrulelaw04_PrecBuilds.bits7 : waitsOk ferrulelaw04_PrecBuilds.T7.2 ferrulelaw04_PrecBuilds.B7 = true := by kernel_rfl
set_option maxHeartbeats 8000000 in
set_option maxRecDepth 100000 in
theorem ferrulelaw04_PrecBuilds.calls (k : Nat) (a0_0 : Int) (a0_1 : Int) (a0_2 : Int) (A0_3 : Option Addr) (c0_3 : Nat) (l0_3 : List ByteArray) (A0_4 : Option Addr) (c0_4 : Nat) (l0_4 : List ByteArray) (a1_0 : Int) (a1_1 : Int) (a1_2 : Int) (A1_3 : Option Addr) (c1_3 : Nat) (l1_3 : List ByteArray) (A1_4 : Option Addr) (c1_4 : Nat) (l1_4 : List ByteArray) (r : Bool) (w : World) (hr0_3 : Kd.C Kd.string w A0_3 l0_3.length l0_3) (hc0_3 : l0_3.length ≤ c0_3) (hr0_4 : Kd.C Kd.string w A0_4 l0_4.length l0_4) (hc0_4 : l0_4.length ≤ c0_4) (hr1_3 : Kd.C Kd.string w A1_3 l1_3.length l1_3) (hc1_3 : l1_3.length ≤ c1_3) (hr1_4 : Kd.C Kd.string w A1_4 l1_4.length l1_4) (hc1_4 : l1_4.length ≤ c1_4) (h : ferrulelaw04_PrecBuilds.f k a0_0 a0_1 a0_2 l0_3 l0_4 a1_0 a1_1 a1_2 l1_3 l1_4 = some r) :
  Calls Tryd.prog 10 #[.agg #[.int .u64 a0_0, .int .u64 a0_1, .int .u64 a0_2, .slice A0_3 l0_3.length c0_3, .slice A0_4 l0_4.length c0_4], .agg #[.int .u64 a1_0, .int .u64 a1_1, .int .u64 a1_2, .slice A1_3 l1_3.length c1_3, .slice A1_4 l1_4.length c1_4]] w fun e w' => e = .returned (.bool r) ∧ Below w.heap.size w w' := by
 have hu40 := Tryd.underlying40
 have HR0_3 := Aside0.mk hr0_3
 have HC0_3 := Aside0.mk hc0_3
 clear hr0_3 hc0_3
 have HR0_4 := Aside0.mk hr0_4
 have HC0_4 := Aside0.mk hc0_4
 clear hr0_4 hc0_4
 have HR1_3 := Aside0.mk hr1_3
 have HC1_3 := Aside0.mk hc1_3
 clear hr1_3 hc1_3
 have HR1_4 := Aside0.mk hr1_4
 have HC1_4 := Aside0.mk hc1_4
 clear hr1_4 hc1_4
 have HB := Aside0.mk (Below.refl w.heap.size w)
 have H : ((ferrulelaw04_awake.f k).bind fun t103 => (if t103 = true then ((ferrulelaw04_short.f k a0_0 a0_1 a0_2 l0_3 l0_4).bind fun t104 => (if t104 = true then ((ferrulelaw04_short.f k a1_0 a1_1 a1_2 l1_3 l1_4).bind fun t105 => (ferrulelaw04_PrecBuilds.j0 k (!t105) a0_0 a0_1 a0_2 l0_3 l0_4 a1_0 a1_1 a1_2 l1_3 l1_4)) else (ferrulelaw04_PrecBuilds.j0 k true a0_0 a0_1 a0_2 l0_3 l0_4 a1_0 a1_1 a1_2 l1_3 l1_4))) else (some false))) = some r := h
 clear h
 replace H := Option.bind_eq_some_iff.mp H
 obtain ⟨t103, A30, H⟩ := H
 replace H : (if t103 = true then ((ferrulelaw04_short.f k a0_0 a0_1 a0_2 l0_3 l0_4).bind fun t104 => (if t104 = true then ((ferrulelaw04_short.f k a1_0 a1_1 a1_2 l1_3 l1_4).bind fun t105 => (ferrulelaw04_PrecBuilds.j0 k (!t105) a0_0 a0_1 a0_2 l0_3 l0_4 a1_0 a1_1 a1_2 l1_3 l1_4)) else (ferrulelaw04_PrecBuilds.j0 k true a0_0 a0_1 a0_2 l0_3 l0_4 a1_0 a1_1 a1_2 l1_3 l1_4))) else (some false)) = some r := H
 have A3 := Aside0.mk A30
 clear A30
 by_cases c4 : t103 = true
 ·subst c4
  have H1 : ((ferrulelaw04_short.f k a0_0 a0_1 a0_2 l0_3 l0_4).bind fun t104 => (if t104 = true then ((ferrulelaw04_short.f k a1_0 a1_1 a1_2 l1_3 l1_4).bind fun t105 => (ferrulelaw04_PrecBuilds.j0 k (!t105) a0_0 a0_1 a0_2 l0_3 l0_4 a1_0 a1_1 a1_2 l1_3 l1_4)) else (ferrulelaw04_PrecBuilds.j0 k true a0_0 a0_1 a0_2 l0_3 l0_4 a1_0 a1_1 a1_2 l1_3 l1_4))) = some r := by rw [if_pos rfl] at H; exact H
  clear H
  have H := H1
  clear H1
  have HC5 := Aside0.mk H
  clear H
  go_enter Tryd.func10, Tryd.ntmps10
  go_upto_region 3 with (first | ((with_reducible refine gate_dst (N := 2) rfl ?_); (try (refine gate_guard (by rfl) ?_; dsimp only)); refine box_event ?hg (N := 2) ?hd (cs := #[.int .u64 a0_0, .int .u64 a0_1, .int .u64 a0_2, .slice A0_3 l0_3.length c0_3, .slice A0_4 l0_4.length c0_4]) (t := 40) ?hr ?_; (case hd => rfl); (case hg => rfl); (case hr => first | (go_simp; done) | (go_simp; rfl)); intro gb101 hg w6 hbox hb; have BK101 := Aside0.mk hbox; have GW101 := Aside0.mk ((by rw [hg]; exact (below_size bB) : w.heap.size ≤ gb101)); have GE101 := Aside0.mk ((by rw [hg]; exact (below_size bB) : w.heap.size ≤ gb101)); replace HB := aB HB hb; clear hb hbox hg) | ((with_reducible refine gate_dst (N := 3) rfl ?_); (try (refine gate_guard (by rfl) ?_; dsimp only)); refine box_event ?hg (N := 3) ?hd (cs := #[.int .u64 a1_0, .int .u64 a1_1, .int .u64 a1_2, .slice A1_3 l1_3.length c1_3, .slice A1_4 l1_4.length c1_4]) (t := 40) ?hr ?_; (case hd => rfl); (case hg => rfl); (case hr => first | (go_simp; done) | (go_simp; rfl)); intro gb102 hg w7 hbox hb; have BK102 := Aside0.mk hbox; have GW102 := Aside0.mk ((by rw [hg]; exact (below_size bB) : w.heap.size ≤ gb102)); have GE102 := Aside0.mk ((by rw [hg]; exact (below_size bB) : w.heap.size ≤ gb102)); replace HB := aB HB hb; have NB101_102 := Aside0.mk ((by rw [hg]; exact Nat.ne_of_lt (blk_lt (g := gb101) (o := .cells #[.int .u64 a0_0, .int .u64 a0_1, .int .u64 a0_2, .slice A0_3 l0_3.length c0_3, .slice A0_4 l0_4.length c0_4] 40 (0, 0)) (aKw BK101)) : gb101 ≠ gb102)); have NB102_101 := Aside0.mk ((by rw [hg]; exact Nat.ne_of_gt (blk_lt (g := gb101) (o := .cells #[.int .u64 a0_0, .int .u64 a0_1, .int .u64 a0_2, .slice A0_3 l0_3.length c0_3, .slice A0_4 l0_4.length c0_4] 40 (0, 0)) (aKw BK101)) : gb102 ≠ gb101)); replace BK101 := aK BK101 hb; clear hb hbox hg) | ((with_reducible refine gate_callee (f := 21) rfl ?_); refine goesL_ (some 6) rfl rfl Tryd.func21 (by kernel_rfl) rfl #[] rfl bM ?_; (with_reducible refine (ferrulelaw04_awake.calls k  true _ A3.out).mono ?_); rintro e w8 ⟨rfl, hb⟩; refine ⟨_, rfl, ?_⟩; replace BK101 := aK BK101 hb; replace BK102 := aK BK102 hb; replace HB := aB HB hb; (try clear hb); (try clear hb2); (try clear hk); (try clear hi)))
  (try simp only [Act.put, List.setIfInBounds_toArray, List.set_cons_zero, List.set_cons_succ])
  go_cut [15] (fun v15 wc => ∃ (kq : Nat) (x15_4 : Bool), v15 = .bool x15_4 ∧ Aside0 (ferrulelaw04_PrecBuilds.j0 kq x15_4 a0_0 a0_1 a0_2 l0_3 l0_4 a1_0 a1_1 a1_2 l1_3 l1_4 = some r) ∧ Aside0 (kq ≤ k) ∧ Aside0 (wc.heap[gb101]? = some (.cells #[.int .u64 a0_0, .int .u64 a0_1, .int .u64 a0_2, (.slice A0_3 l0_3.length c0_3), (.slice A0_4 l0_4.length c0_4)] 40 (0, 0))) ∧ Aside0 (wc.heap[gb102]? = some (.cells #[.int .u64 a1_0, .int .u64 a1_1, .int .u64 a1_2, (.slice A1_3 l1_3.length c1_3), (.slice A1_4 l1_4.length c1_4)] 40 (0, 0))) ∧ Aside0 (Below w.heap.size w wc))
  case first =>
   have H := HC5.out
   clear HC5
   replace H := Option.bind_eq_some_iff.mp H
   obtain ⟨t104, A90, H⟩ := H
   replace H : (if t104 = true then ((ferrulelaw04_short.f k a1_0 a1_1 a1_2 l1_3 l1_4).bind fun t105 => (ferrulelaw04_PrecBuilds.j0 k (!t105) a0_0 a0_1 a0_2 l0_3 l0_4 a1_0 a1_1 a1_2 l1_3 l1_4)) else (ferrulelaw04_PrecBuilds.j0 k true a0_0 a0_1 a0_2 l0_3 l0_4 a1_0 a1_1 a1_2 l1_3 l1_4)) = some r := H
   have A9 := Aside0.mk A90
   clear A90
   by_cases c10 : t104 = true
   ·subst c10
    have H1 : ((ferrulelaw04_short.f k a1_0 a1_1 a1_2 l1_3 l1_4).bind fun t105 => (ferrulelaw04_PrecBuilds.j0 k (!t105) a0_0 a0_1 a0_2 l0_3 l0_4 a1_0 a1_1 a1_2 l1_3 l1_4)) = some r := by rw [if_pos rfl] at H; exact H
    clear H
    have H := H1
    clear H1
    replace H := Option.bind_eq_some_iff.mp H
    obtain ⟨t105, A110, H⟩ := H
    replace H : (ferrulelaw04_PrecBuilds.j0 k (!t105) a0_0 a0_1 a0_2 l0_3 l0_4 a1_0 a1_1 a1_2 l1_3 l1_4) = some r := H
    have A11 := Aside0.mk A110
    clear A110
    have H' := Aside0.mk H
    clear H
    have hnb12 := NB101_102.out
    have hnc12 := NB102_101.out
    have hcz13_0 : w8.cell? ⟨gb101, 0, none⟩ = some (.int .u64 a0_0) := (blk_cell BK101.out 0).trans rfl
    have hcz13_1 : w8.cell? ⟨gb101, 1, none⟩ = some (.int .u64 a0_1) := (blk_cell BK101.out 1).trans rfl
    have hcz13_2 : w8.cell? ⟨gb101, 2, none⟩ = some (.int .u64 a0_2) := (blk_cell BK101.out 2).trans rfl
    have hcz13_3 : w8.cell? ⟨gb101, 3, none⟩ = some (.slice A0_3 l0_3.length c0_3) := (blk_cell BK101.out 3).trans rfl
    have hcz13_4 : w8.cell? ⟨gb101, 4, none⟩ = some (.slice A0_4 l0_4.length c0_4) := (blk_cell BK101.out 4).trans rfl
    have hfz13_0 := blk_frozen BK101.out 0
    have hfz13_1 := blk_frozen BK101.out 1
    have hfz13_2 := blk_frozen BK101.out 2
    have hfz13_3 := blk_frozen BK101.out 3
    have hfz13_4 := blk_frozen BK101.out 4
    go_wp2_with (first | ((with_reducible refine gate_callee (f := 22) rfl ?_); refine goesL_ (some 9) rfl rfl Tryd.func22 (by kernel_rfl) rfl #[.agg #[.int .u64 a0_0, .int .u64 a0_1, .int .u64 a0_2, .slice A0_3 l0_3.length c0_3, .slice A0_4 l0_4.length c0_4]] rfl bM ?_; (with_reducible refine (ferrulelaw04_short.calls k a0_0 a0_1 a0_2 _ _ l0_3 _ _ l0_4 true _ ?side1 ?side2 ?side3 ?side4 A9.out).mono ?_); (case side1 => exact sW (Kd.C_below HR0_3.out HB.out)); (case side2 => exact HC0_3.out); (case side3 => exact sW (Kd.C_below HR0_4.out HB.out)); (case side4 => exact HC0_4.out); rintro e w14 ⟨rfl, hb⟩; refine ⟨_, rfl, ?_⟩; replace BK101 := aK BK101 hb; replace BK102 := aK BK102 hb; replace HB := aB HB hb; (try clear hb); (try clear hb2); (try clear hk); (try clear hi); have hcz15_0 : w14.cell? ⟨gb102, 0, none⟩ = some (.int .u64 a1_0) := (blk_cell BK102.out 0).trans rfl; have hcz15_1 : w14.cell? ⟨gb102, 1, none⟩ = some (.int .u64 a1_1) := (blk_cell BK102.out 1).trans rfl; have hcz15_2 : w14.cell? ⟨gb102, 2, none⟩ = some (.int .u64 a1_2) := (blk_cell BK102.out 2).trans rfl; have hcz15_3 : w14.cell? ⟨gb102, 3, none⟩ = some (.slice A1_3 l1_3.length c1_3) := (blk_cell BK102.out 3).trans rfl; have hcz15_4 : w14.cell? ⟨gb102, 4, none⟩ = some (.slice A1_4 l1_4.length c1_4) := (blk_cell BK102.out 4).trans rfl; have hfz15_0 := blk_frozen BK102.out 0; have hfz15_1 := blk_frozen BK102.out 1; have hfz15_2 := blk_frozen BK102.out 2; have hfz15_3 := blk_frozen BK102.out 3; have hfz15_4 := blk_frozen BK102.out 4) | (go_at_call 22; (with_reducible refine (ferrulelaw04_short.calls k a1_0 a1_1 a1_2 _ _ l1_3 _ _ l1_4 t105 _ ?side1 ?side2 ?side3 ?side4 A11.out).mono ?_); (case side1 => exact sW (Kd.C_below HR1_3.out HB.out)); (case side2 => exact HC1_3.out); (case side3 => exact sW (Kd.C_below HR1_4.out HB.out)); (case side4 => exact HC1_4.out); rintro e w16 ⟨rfl, hb⟩; replace BK101 := aK BK101 hb; replace BK102 := aK BK102 hb; replace HB := aB HB hb; (try clear hb); (try clear hb2); (try clear hk); (try clear hi)))
    go_meet
    case rel => exact ⟨_, (!t105), bS, H', ⟨by first | omega | exact Nat.le_refl _⟩, ⟨aKw BK101⟩, ⟨aKw BK102⟩, ⟨bB⟩⟩
   ·replace c10 := Bool.eq_false_iff.mpr c10
    subst c10
    have H1 : (ferrulelaw04_PrecBuilds.j0 k true a0_0 a0_1 a0_2 l0_3 l0_4 a1_0 a1_1 a1_2 l1_3 l1_4) = some r := by rw [if_neg (show ¬ (false = true) by decide)] at H; exact H
    clear H
    have H := H1
    clear H1
    have H' := Aside0.mk H
    clear H
    have hnb17 := NB101_102.out
    have hnc17 := NB102_101.out
    have hcz18_0 : w8.cell? ⟨gb101, 0, none⟩ = some (.int .u64 a0_0) := (blk_cell BK101.out 0).trans rfl
    have hcz18_1 : w8.cell? ⟨gb101, 1, none⟩ = some (.int .u64 a0_1) := (blk_cell BK101.out 1).trans rfl
    have hcz18_2 : w8.cell? ⟨gb101, 2, none⟩ = some (.int .u64 a0_2) := (blk_cell BK101.out 2).trans rfl
    have hcz18_3 : w8.cell? ⟨gb101, 3, none⟩ = some (.slice A0_3 l0_3.length c0_3) := (blk_cell BK101.out 3).trans rfl
    have hcz18_4 : w8.cell? ⟨gb101, 4, none⟩ = some (.slice A0_4 l0_4.length c0_4) := (blk_cell BK101.out 4).trans rfl
    have hfz18_0 := blk_frozen BK101.out 0
    have hfz18_1 := blk_frozen BK101.out 1
    have hfz18_2 := blk_frozen BK101.out 2
    have hfz18_3 := blk_frozen BK101.out 3
    have hfz18_4 := blk_frozen BK101.out 4
    go_wp2_with (first | ((with_reducible refine gate_callee (f := 22) rfl ?_); refine goesL_ (some 9) rfl rfl Tryd.func22 (by kernel_rfl) rfl #[.agg #[.int .u64 a0_0, .int .u64 a0_1, .int .u64 a0_2, .slice A0_3 l0_3.length c0_3, .slice A0_4 l0_4.length c0_4]] rfl bM ?_; (with_reducible refine (ferrulelaw04_short.calls k a0_0 a0_1 a0_2 _ _ l0_3 _ _ l0_4 false _ ?side1 ?side2 ?side3 ?side4 A9.out).mono ?_); (case side1 => exact sW (Kd.C_below HR0_3.out HB.out)); (case side2 => exact HC0_3.out); (case side3 => exact sW (Kd.C_below HR0_4.out HB.out)); (case side4 => exact HC0_4.out); rintro e w19 ⟨rfl, hb⟩; refine ⟨_, rfl, ?_⟩; replace BK101 := aK BK101 hb; replace BK102 := aK BK102 hb; replace HB := aB HB hb; (try clear hb); (try clear hb2); (try clear hk); (try clear hi)))
    go_meet
    case rel => exact ⟨_, (true), bS, H', ⟨by first | omega | exact Nat.le_refl _⟩, ⟨aKw BK101⟩, ⟨aKw BK102⟩, ⟨bB⟩⟩
  case rest =>
   clear HC5
   try clear c1
   try clear c2
   try clear p2
   try clear c4
   try clear p6
   try clear c10
   try clear c12
   try clear c17
   try clear hcz13_0
   try clear hcz13_1
   try clear hcz13_2
   try clear hcz13_3
   try clear hcz13_4
   try clear hcz15_0
   try clear hcz15_1
   try clear hcz15_2
   try clear hcz15_3
   try clear hcz15_4
   try clear hcz18_0
   try clear hcz18_1
   try clear hcz18_2
   try clear hcz18_3
   try clear hcz18_4
   try clear hfz13_0
   try clear hfz13_1
   try clear hfz13_2
   try clear hfz13_3
   try clear hfz13_4
   try clear hfz15_0
   try clear hfz15_1
   try clear hfz15_2
   try clear hfz15_3
   try clear hfz15_4
   try clear hfz18_0
   try clear hfz18_1
   try clear hfz18_2
   try clear hfz18_3
   try clear hfz18_4
   obtain ⟨kq, x15_4, rfl, HA, HJ4, BK101, BK102, HB⟩ := hcut
   cases kq with
   | zero => exact absurd HA.out (by simp [ferrulelaw04_PrecBuilds.j0])
   | succ kj4 =>
    have H := HA.out
    clear HA
    simp only [ferrulelaw04_PrecBuilds.j0] at H
    by_cases c20 : x15_4 = true
    ·subst c20
     have H1 : (some true) = some r := by rw [if_pos rfl] at H; exact H
     clear H
     have H := H1
     clear H1
     obtain rfl := Option.some.inj H
     go_wp2
     go_ret
     exact ⟨by first | rfl | (simp [errW_none, errW_some] <;> rfl) | (simp [*, errW_none, errW_some] <;> rfl), bB⟩
    ·replace c20 := Bool.eq_false_iff.mpr c20
     subst c20
     have H1 : ((prec_Compare.f kj4 a0_0 a0_1 a0_2 l0_3 l0_4 a1_0 a1_1 a1_2 l1_3 l1_4).bind fun t107 => ((prec_Compare.f kj4 a0_0 a0_1 a0_2 l0_3 ([] : List ByteArray) a1_0 a1_1 a1_2 l1_3 l1_4).bind fun t108 => (if t107 = t108 then ((prec_Compare.f kj4 a0_0 a0_1 a0_2 l0_3 l0_4 a0_0 a0_1 a0_2 l0_3 ([] : List ByteArray)).bind fun t109 => (if t109 = 0 then ((prec_Full.f kj4 a0_0 a0_1 a0_2 l0_3 ([] : List ByteArray) a0_0 a0_1 a0_2 l0_3 l0_4).bind fun t110 => (if t110 ≤ 0 then ((prec_Full.f kj4 a0_0 a0_1 a0_2 l0_3 ([] : List ByteArray) a0_0 a0_1 a0_2 l0_3 l0_4).bind fun t111 => (some ((t111 == 0) == ((l0_4.length : Int) == 0)))) else (some false))) else (some false))) else (some false)))) = some r := by rw [if_neg (show ¬ (false = true) by decide)] at H; exact H
     clear H
     have H := H1
     clear H1
     replace H := Option.bind_eq_some_iff.mp H
     obtain ⟨t107, A210, H⟩ := H
     replace H : ((prec_Compare.f kj4 a0_0 a0_1 a0_2 l0_3 ([] : List ByteArray) a1_0 a1_1 a1_2 l1_3 l1_4).bind fun t108 => (if t107 = t108 then ((prec_Compare.f kj4 a0_0 a0_1 a0_2 l0_3 l0_4 a0_0 a0_1 a0_2 l0_3 ([] : List ByteArray)).bind fun t109 => (if t109 = 0 then ((prec_Full.f kj4 a0_0 a0_1 a0_2 l0_3 ([] : List ByteArray) a0_0 a0_1 a0_2 l0_3 l0_4).bind fun t110 => (if t110 ≤ 0 then ((prec_Full.f kj4 a0_0 a0_1 a0_2 l0_3 ([] : List ByteArray) a0_0 a0_1 a0_2 l0_3 l0_4).bind fun t111 => (some ((t111 == 0) == ((l0_4.length : Int) == 0)))) else (some false))) else (some false))) else (some false))) = some r := H
     have A21 := Aside0.mk A210
     clear A210
     replace H := Option.bind_eq_some_iff.mp H
     obtain ⟨t108, A220, H⟩ := H
     replace H : (if t107 = t108 then ((prec_Compare.f kj4 a0_0 a0_1 a0_2 l0_3 l0_4 a0_0 a0_1 a0_2 l0_3 ([] : List ByteArray)).bind fun t109 => (if t109 = 0 then ((prec_Full.f kj4 a0_0 a0_1 a0_2 l0_3 ([] : List ByteArray) a0_0 a0_1 a0_2 l0_3 l0_4).bind fun t110 => (if t110 ≤ 0 then ((prec_Full.f kj4 a0_0 a0_1 a0_2 l0_3 ([] : List ByteArray) a0_0 a0_1 a0_2 l0_3 l0_4).bind fun t111 => (some ((t111 == 0) == ((l0_4.length : Int) == 0)))) else (some false))) else (some false))) else (some false)) = some r := H
     have A22 := Aside0.mk A220
     clear A220
     by_cases c23 : t107 = t108
     ·rw [if_pos c23] at H
      have c23b0 : (t107 == t108) = true := beq_iff_eq.mpr c23
      have c23b1 : (t107 != t108) = false := bne_eq_false_iff_eq.mpr c23
      clear c23
      replace H := Option.bind_eq_some_iff.mp H
      obtain ⟨t109, A240, H⟩ := H
      replace H : (if t109 = 0 then ((prec_Full.f kj4 a0_0 a0_1 a0_2 l0_3 ([] : List ByteArray) a0_0 a0_1 a0_2 l0_3 l0_4).bind fun t110 => (if t110 ≤ 0 then ((prec_Full.f kj4 a0_0 a0_1 a0_2 l0_3 ([] : List ByteArray) a0_0 a0_1 a0_2 l0_3 l0_4).bind fun t111 => (some ((t111 == 0) == ((l0_4.length : Int) == 0)))) else (some false))) else (some false)) = some r := H
      have A24 := Aside0.mk A240
      clear A240
      by_cases c25 : t109 = 0
      ·rw [if_pos c25] at H
       have c25b0 : (t109 == 0) = true := beq_iff_eq.mpr c25
       have c25b1 : (t109 != 0) = false := bne_eq_false_iff_eq.mpr c25
       clear c25
       replace H := Option.bind_eq_some_iff.mp H
       obtain ⟨t110, A260, H⟩ := H
       replace H : (if t110 ≤ 0 then ((prec_Full.f kj4 a0_0 a0_1 a0_2 l0_3 ([] : List ByteArray) a0_0 a0_1 a0_2 l0_3 l0_4).bind fun t111 => (some ((t111 == 0) == ((l0_4.length : Int) == 0)))) else (some false)) = some r := H
       have A26 := Aside0.mk A260
       clear A260
       by_cases c27 : t110 ≤ 0
       ·rw [if_pos c27] at H
        have c27b0 : decide (t110 ≤ 0) = true := decide_eq_true c27
        clear c27
        replace H := Option.bind_eq_some_iff.mp H
        obtain ⟨t111, A280, H⟩ := H
        replace H : (some ((t111 == 0) == ((l0_4.length : Int) == 0))) = some r := H
        have A28 := Aside0.mk A280
        clear A280
        obtain rfl := Option.some.inj H
        have hnb29 := NB101_102.out
        have hnc29 := NB102_101.out
        have hcz30_0 : wc.cell? ⟨gb101, 0, none⟩ = some (.int .u64 a0_0) := (blk_cell BK101.out 0).trans rfl
        have hcz30_1 : wc.cell? ⟨gb101, 1, none⟩ = some (.int .u64 a0_1) := (blk_cell BK101.out 1).trans rfl
        have hcz30_2 : wc.cell? ⟨gb101, 2, none⟩ = some (.int .u64 a0_2) := (blk_cell BK101.out 2).trans rfl
        have hcz30_3 : wc.cell? ⟨gb101, 3, none⟩ = some (.slice A0_3 l0_3.length c0_3) := (blk_cell BK101.out 3).trans rfl
        have hcz30_4 : wc.cell? ⟨gb101, 4, none⟩ = some (.slice A0_4 l0_4.length c0_4) := (blk_cell BK101.out 4).trans rfl
        have hfz30_0 := blk_frozen BK101.out 0
        have hfz30_1 := blk_frozen BK101.out 1
        have hfz30_2 := blk_frozen BK101.out 2
        have hfz30_3 := blk_frozen BK101.out 3
        have hfz30_4 := blk_frozen BK101.out 4
        try go_wp2_with (first | ((with_reducible refine gate_dst (N := 5) rfl ?_); (try (refine gate_guard (by rfl) ?_; dsimp only)); refine box_event ?hg (N := 5) ?hd (cs := #[.int .u64 0, .int .u64 0, .int .u64 0, .slice none 0 0, .slice none 0 0]) (t := 40) ?hr ?_; (case hd => rfl); (case hg => rfl); (case hr => first | (go_simp; done) | (go_simp; rfl)); intro gb106 hg w31 hbox hb; have BK106 := Aside0.mk hbox; have GW106 := Aside0.mk ((by rw [hg]; exact (below_size bB) : w.heap.size ≤ gb106)); have GE106 := Aside0.mk ((by rw [hg]; exact (below_size bB) : w.heap.size ≤ gb106)); replace HB := aB HB hb; have NB101_106 := Aside0.mk ((by rw [hg]; exact Nat.ne_of_lt (blk_lt (g := gb101) (o := .cells #[.int .u64 a0_0, .int .u64 a0_1, .int .u64 a0_2, .slice A0_3 l0_3.length c0_3, .slice A0_4 l0_4.length c0_4] 40 (0, 0)) (aKw BK101)) : gb101 ≠ gb106)); have NB106_101 := Aside0.mk ((by rw [hg]; exact Nat.ne_of_gt (blk_lt (g := gb101) (o := .cells #[.int .u64 a0_0, .int .u64 a0_1, .int .u64 a0_2, .slice A0_3 l0_3.length c0_3, .slice A0_4 l0_4.length c0_4] 40 (0, 0)) (aKw BK101)) : gb106 ≠ gb101)); replace BK101 := aK BK101 hb; have NB102_106 := Aside0.mk ((by rw [hg]; exact Nat.ne_of_lt (blk_lt (g := gb102) (o := .cells #[.int .u64 a1_0, .int .u64 a1_1, .int .u64 a1_2, .slice A1_3 l1_3.length c1_3, .slice A1_4 l1_4.length c1_4] 40 (0, 0)) (aKw BK102)) : gb102 ≠ gb106)); have NB106_102 := Aside0.mk ((by rw [hg]; exact Nat.ne_of_gt (blk_lt (g := gb102) (o := .cells #[.int .u64 a1_0, .int .u64 a1_1, .int .u64 a1_2, .slice A1_3 l1_3.length c1_3, .slice A1_4 l1_4.length c1_4] 40 (0, 0)) (aKw BK102)) : gb106 ≠ gb102)); replace BK102 := aK BK102 hb; clear hb hbox hg; have hnb32 := NB106_101.out; have hnc32 := NB101_106.out; have hnb33 := NB106_102.out; have hnc33 := NB102_106.out; have hcz34_0 : w31.cell? ⟨gb106, 0, none⟩ = some (.int .u64 0) := (blk_cell BK106.out 0).trans rfl; have hcz34_1 : w31.cell? ⟨gb106, 1, none⟩ = some (.int .u64 0) := (blk_cell BK106.out 1).trans rfl; have hcz34_2 : w31.cell? ⟨gb106, 2, none⟩ = some (.int .u64 0) := (blk_cell BK106.out 2).trans rfl; have hcz34_3 : w31.cell? ⟨gb106, 3, none⟩ = some (.slice none 0 0) := (blk_cell BK106.out 3).trans rfl; have hcz34_4 : w31.cell? ⟨gb106, 4, none⟩ = some (.slice none 0 0) := (blk_cell BK106.out 4).trans rfl; have hfz34_0 := blk_frozen BK106.out 0; have hfz34_1 := blk_frozen BK106.out 1; have hfz34_2 := blk_frozen BK106.out 2; have hfz34_3 := blk_frozen BK106.out 3; have hfz34_4 := blk_frozen BK106.out 4))
        generalize hW_ : ((((((w31.setCell ⟨gb106, 0, none⟩ (.int .u64 a0_0)).setCell ⟨gb106, 1, none⟩ (.int .u64 a0_1)).setCell ⟨gb106, 2, none⟩ (.int .u64 a0_2)).setCell ⟨gb106, 3, none⟩ (.slice A0_3 l0_3.length c0_3)).setCell ⟨gb106, 4, none⟩ (.slice A0_4 l0_4.length c0_4)).setCell ⟨gb106, 4, none⟩ (.slice none 0 0)) = w35
        have n0_ : Aside0 (w35.heap[gb101]? = some (.cells #[.int .u64 a0_0, .int .u64 a0_1, .int .u64 a0_2, .slice A0_3 l0_3.length c0_3, .slice A0_4 l0_4.length c0_4] 40 (0, 0))) := ⟨by subst hW_; (with_reducible repeat (first | refine blk_drewN ?_ _ | refine blk_drew ?_ | refine blk_alloc ?_ _)); refine blk_far ?_ NB101_106.out _; (with_reducible repeat (first | refine blk_drewN ?_ _ | refine blk_drew ?_ | refine blk_alloc ?_ _)); refine blk_far ?_ NB101_106.out _; (with_reducible repeat (first | refine blk_drewN ?_ _ | refine blk_drew ?_ | refine blk_alloc ?_ _)); refine blk_far ?_ NB101_106.out _; (with_reducible repeat (first | refine blk_drewN ?_ _ | refine blk_drew ?_ | refine blk_alloc ?_ _)); refine blk_far ?_ NB101_106.out _; (with_reducible repeat (first | refine blk_drewN ?_ _ | refine blk_drew ?_ | refine blk_alloc ?_ _)); refine blk_far ?_ NB101_106.out _; (with_reducible repeat (first | refine blk_drewN ?_ _ | refine blk_drew ?_ | refine blk_alloc ?_ _)); refine blk_far ?_ NB101_106.out _; (with_reducible repeat (first | refine blk_drewN ?_ _ | refine blk_drew ?_ | refine blk_alloc ?_ _)); exact BK101.out⟩
        have n1_ : Aside0 (w35.heap[gb102]? = some (.cells #[.int .u64 a1_0, .int .u64 a1_1, .int .u64 a1_2, .slice A1_3 l1_3.length c1_3, .slice A1_4 l1_4.length c1_4] 40 (0, 0))) := ⟨by subst hW_; (with_reducible repeat (first | refine blk_drewN ?_ _ | refine blk_drew ?_ | refine blk_alloc ?_ _)); refine blk_far ?_ NB102_106.out _; (with_reducible repeat (first | refine blk_drewN ?_ _ | refine blk_drew ?_ | refine blk_alloc ?_ _)); refine blk_far ?_ NB102_106.out _; (with_reducible repeat (first | refine blk_drewN ?_ _ | refine blk_drew ?_ | refine blk_alloc ?_ _)); refine blk_far ?_ NB102_106.out _; (with_reducible repeat (first | refine blk_drewN ?_ _ | refine blk_drew ?_ | refine blk_alloc ?_ _)); refine blk_far ?_ NB102_106.out _; (with_reducible repeat (first | refine blk_drewN ?_ _ | refine blk_drew ?_ | refine blk_alloc ?_ _)); refine blk_far ?_ NB102_106.out _; (with_reducible repeat (first | refine blk_drewN ?_ _ | refine blk_drew ?_ | refine blk_alloc ?_ _)); refine blk_far ?_ NB102_106.out _; (with_reducible repeat (first | refine blk_drewN ?_ _ | refine blk_drew ?_ | refine blk_alloc ?_ _)); exact BK102.out⟩
        have n2_ : Aside0 (w35.heap[gb106]? = some (.cells #[.int .u64 a0_0, .int .u64 a0_1, .int .u64 a0_2, .slice A0_3 l0_3.length c0_3, .slice none 0 0] 40 (0, 0))) := ⟨by subst hW_; (with_reducible repeat (first | refine blk_drewN ?_ _ | refine blk_drew ?_ | refine blk_alloc ?_ _)); refine blk_put (cs := #[.int .u64 a0_0, .int .u64 a0_1, .int .u64 a0_2, .slice A0_3 l0_3.length c0_3, .slice A0_4 l0_4.length c0_4]) ?_ 4 _ rfl; (with_reducible repeat (first | refine blk_drewN ?_ _ | refine blk_drew ?_ | refine blk_alloc ?_ _)); refine blk_put (cs := #[.int .u64 a0_0, .int .u64 a0_1, .int .u64 a0_2, .slice A0_3 l0_3.length c0_3, .slice none 0 0]) ?_ 4 _ rfl; (with_reducible repeat (first | refine blk_drewN ?_ _ | refine blk_drew ?_ | refine blk_alloc ?_ _)); refine blk_put (cs := #[.int .u64 a0_0, .int .u64 a0_1, .int .u64 a0_2, .slice none 0 0, .slice none 0 0]) ?_ 3 _ rfl; (with_reducible repeat (first | refine blk_drewN ?_ _ | refine blk_drew ?_ | refine blk_alloc ?_ _)); refine blk_put (cs := #[.int .u64 a0_0, .int .u64 a0_1, .int .u64 0, .slice none 0 0, .slice none 0 0]) ?_ 2 _ rfl; (with_reducible repeat (first | refine blk_drewN ?_ _ | refine blk_drew ?_ | refine blk_alloc ?_ _)); refine blk_put (cs := #[.int .u64 a0_0, .int .u64 0, .int .u64 0, .slice none 0 0, .slice none 0 0]) ?_ 1 _ rfl; (with_reducible repeat (first | refine blk_drewN ?_ _ | refine blk_drew ?_ | refine blk_alloc ?_ _)); refine blk_put (cs := #[.int .u64 0, .int .u64 0, .int .u64 0, .slice none 0 0, .slice none 0 0]) ?_ 0 _ rfl; (with_reducible repeat (first | refine blk_drewN ?_ _ | refine blk_drew ?_ | refine blk_alloc ?_ _)); exact BK106.out⟩
        have n3_ : Aside0 (Below w.heap.size w w35) := ⟨by subst hW_; exact bB⟩
        (try clear BK101)
        (try clear BK102)
        (try clear BK106)
        (try clear HB)
        clear hW_
        have BK101 := n0_
        have BK102 := n1_
        have BK106 := n2_
        have HB := n3_
        clear n0_ n1_ n2_ n3_
        replace BK101 := Aside0.mk (blk_drew BK101.out)
        replace BK102 := Aside0.mk (blk_drew BK102.out)
        replace BK106 := Aside0.mk (blk_drew BK106.out)
        replace HB := Aside0.mk (below_drew1 HB.out)
        refine start_ (n := 31) (S := fun w' => w'.cell? ⟨gb101, 0, none⟩ = some (.int .u64 a0_0) ∧ w'.cell? ⟨gb101, 1, none⟩ = some (.int .u64 a0_1) ∧ w'.cell? ⟨gb101, 2, none⟩ = some (.int .u64 a0_2) ∧ w'.cell? ⟨gb101, 3, none⟩ = some (.slice A0_3 l0_3.length c0_3) ∧ w'.cell? ⟨gb101, 4, none⟩ = some (.slice A0_4 l0_4.length c0_4) ∧ w'.cell? ⟨gb102, 0, none⟩ = some (.int .u64 a1_0) ∧ w'.cell? ⟨gb102, 1, none⟩ = some (.int .u64 a1_1) ∧ w'.cell? ⟨gb102, 2, none⟩ = some (.int .u64 a1_2) ∧ w'.cell? ⟨gb102, 3, none⟩ = some (.slice A1_3 l1_3.length c1_3) ∧ w'.cell? ⟨gb102, 4, none⟩ = some (.slice A1_4 l1_4.length c1_4) ∧ w'.cell? ⟨gb106, 0, none⟩ = some (.int .u64 a0_0) ∧ w'.cell? ⟨gb106, 1, none⟩ = some (.int .u64 a0_1) ∧ w'.cell? ⟨gb106, 2, none⟩ = some (.int .u64 a0_2) ∧ w'.cell? ⟨gb106, 3, none⟩ = some (.slice A0_3 l0_3.length c0_3) ∧ w'.cell? ⟨gb106, 4, none⟩ = some (.slice none 0 0)) (ds := []) #[false, false, false, false, false, false, false, false, false, false, false, false, false, false, false, false, false, false, false, false, false, false, false, false, false, false, false, false, false, false, false] (by kernel_rfl) rfl rfl ⟨(blk_cell BK101.out 0).trans rfl, (blk_cell BK101.out 1).trans rfl, (blk_cell BK101.out 2).trans rfl, (blk_cell BK101.out 3).trans rfl, (blk_cell BK101.out 4).trans rfl, (blk_cell BK102.out 0).trans rfl, (blk_cell BK102.out 1).trans rfl, (blk_cell BK102.out 2).trans rfl, (blk_cell BK102.out 3).trans rfl, (blk_cell BK102.out 4).trans rfl, (blk_cell BK106.out 0).trans rfl, (blk_cell BK106.out 1).trans rfl, (blk_cell BK106.out 2).trans rfl, (blk_cell BK106.out 3).trans rfl, (blk_cell BK106.out 4).trans rfl⟩ (fun hHeld => ?_); refine with_tabW ferrulelaw04_PrecBuilds.tab7 ferrulelaw04_PrecBuilds.bits7 (fun HT_ HW_ => ?_)
        generalize w35.drew = w36 at BK101 BK102 BK106 HB hHeld ⊢
        refine tV 0 18 rfl rfl ?_
        refine tV 1 19 rfl rfl ?_
        refine tV 3 21 rfl rfl ?_
        refine tV 4 22 rfl rfl ?_
        refine one_ (i := 2) (N := some 20) #[true, true, true, true, true, false, false, false, false, false, false, false, false, false, false, false, false, false, false, false, false, false, false, false, false, false, false, false, false, false, false] rfl rfl (one_of HT_.out (by kernel_rfl)) (by decide) (fun K hK => ?_)
        refine goes_ Tryd.func31 (by kernel_rfl) rfl #[.agg #[.int .u64 a0_0, .int .u64 a0_1, .int .u64 a0_2, .slice A0_3 l0_3.length c0_3, .slice A0_4 l0_4.length c0_4], .agg #[.int .u64 a1_0, .int .u64 a1_1, .int .u64 a1_2, .slice A1_3 l1_3.length c1_3, .slice A1_4 l1_4.length c1_4]] (by rfl) rfl rfl bM ?_
        with_reducible refine (prec_Compare.calls kj4 a0_0 a0_1 a0_2 _ _ l0_3 _ _ l0_4 a1_0 a1_1 a1_2 _ _ l1_3 _ _ l1_4 t107 _ ?side1 ?side2 ?side3 ?side4 ?side5 ?side6 ?side7 ?side8 A21.out).mono ?_
        (case side1 => exact sW (Kd.C_below HR0_3.out HB.out))
        (case side2 => exact HC0_3.out)
        (case side3 => exact sW (Kd.C_below HR0_4.out HB.out))
        (case side4 => exact HC0_4.out)
        (case side5 => exact sW (Kd.C_below HR1_3.out HB.out))
        (case side6 => exact HC1_3.out)
        (case side7 => exact sW (Kd.C_below HR1_4.out HB.out))
        (case side8 => exact HC1_4.out)
        rintro e w37 ⟨rfl, hb⟩
        refine ⟨_, rfl, ?_⟩
        replace BK101 := aK BK101 hb
        replace BK102 := aK BK102 hb
        replace BK106 := aK BK106 hb
        replace HB := aB HB hb
        (try clear hb)
        (try clear hb2)
        (try clear hk)
        (try clear hi)
        refine hK.out _ _ ⟨(blk_cell BK101.out 0).trans rfl, (blk_cell BK101.out 1).trans rfl, (blk_cell BK101.out 2).trans rfl, (blk_cell BK101.out 3).trans rfl, (blk_cell BK101.out 4).trans rfl, (blk_cell BK102.out 0).trans rfl, (blk_cell BK102.out 1).trans rfl, (blk_cell BK102.out 2).trans rfl, (blk_cell BK102.out 3).trans rfl, (blk_cell BK102.out 4).trans rfl, (blk_cell BK106.out 0).trans rfl, (blk_cell BK106.out 1).trans rfl, (blk_cell BK106.out 2).trans rfl, (blk_cell BK106.out 3).trans rfl, (blk_cell BK106.out 4).trans rfl⟩ (fun hHeld => ?_)
        clear hK K
        refine norm_ (a' := ?_) ?_ ?_
        rotate_left
        ·show Act.put _ (some 20) _ = _
         simp only [Act.put, List.setIfInBounds_toArray, List.set_cons_zero, List.set_cons_succ, i64_w, i32_w]
         rfl
        refine one_ (i := 5) (N := some 23) #[true, true, true, true, true, true, false, false, false, false, false, false, false, false, false, false, false, false, false, false, false, false, false, false, false, false, false, false, false, false, false] rfl rfl (one_of HT_.out (by kernel_rfl)) (by decide) (fun K hK => ?_)
        refine goes_ Tryd.func31 (by kernel_rfl) rfl #[.agg #[.int .u64 a0_0, .int .u64 a0_1, .int .u64 a0_2, .slice A0_3 l0_3.length c0_3, .slice none 0 0], .agg #[.int .u64 a1_0, .int .u64 a1_1, .int .u64 a1_2, .slice A1_3 l1_3.length c1_3, .slice A1_4 l1_4.length c1_4]] (by rfl) rfl rfl bM ?_
        refine (prec_Compare.calls kj4 a0_0 a0_1 a0_2 _ _ l0_3 _ _ ([] : List ByteArray) a1_0 a1_1 a1_2 _ _ l1_3 _ _ l1_4 t108 _ ?side1 ?side2 ?side3 ?side4 ?side5 ?side6 ?side7 ?side8 A22.out).mono ?_
        (case side1 => exact sW (Kd.C_below HR0_3.out HB.out))
        (case side2 => exact HC0_3.out)
        (case side3 => exact Kd.C_nil _ _)
        (case side4 => exact Nat.le_refl _)
        (case side5 => exact sW (Kd.C_below HR1_3.out HB.out))
        (case side6 => exact HC1_3.out)
        (case side7 => exact sW (Kd.C_below HR1_4.out HB.out))
        (case side8 => exact HC1_4.out)
        rintro e w38 ⟨rfl, hb⟩
        refine ⟨_, rfl, ?_⟩
        replace BK101 := aK BK101 hb
        replace BK102 := aK BK102 hb
        replace BK106 := aK BK106 hb
        replace HB := aB HB hb
        (try clear hb)
        (try clear hb2)
        (try clear hk)
        (try clear hi)
        refine hK.out _ _ ⟨(blk_cell BK101.out 0).trans rfl, (blk_cell BK101.out 1).trans rfl, (blk_cell BK101.out 2).trans rfl, (blk_cell BK101.out 3).trans rfl, (blk_cell BK101.out 4).trans rfl, (blk_cell BK102.out 0).trans rfl, (blk_cell BK102.out 1).trans rfl, (blk_cell BK102.out 2).trans rfl, (blk_cell BK102.out 3).trans rfl, (blk_cell BK102.out 4).trans rfl, (blk_cell BK106.out 0).trans rfl, (blk_cell BK106.out 1).trans rfl, (blk_cell BK106.out 2).trans rfl, (blk_cell BK106.out 3).trans rfl, (blk_cell BK106.out 4).trans rfl⟩ (fun hHeld => ?_)
        clear hK K
        refine norm_ (a' := ?_) ?_ ?_
        rotate_left
        ·show Act.put _ (some 23) _ = _
         simp only [Act.put, List.setIfInBounds_toArray, List.set_cons_zero, List.set_cons_succ, i64_w, i32_w]
         rfl
        refine pV 6 24 rfl rfl ?_
        refine pV 7 25 rfl rfl ?_
        refine tV 8 26 rfl rfl ?_
        refine tV 9 27 rfl rfl ?_
        refine one_ (i := 10) (N := some 28) #[true, true, true, true, true, true, true, true, true, true, true, false, false, false, false, false, false, false, false, false, false, false, false, false, false, false, false, false, false, false, false] rfl rfl (one_of HT_.out (by kernel_rfl)) (by decide) (fun K hK => ?_)
        refine goes_ Tryd.func31 (by kernel_rfl) rfl #[.agg #[.int .u64 a0_0, .int .u64 a0_1, .int .u64 a0_2, .slice A0_3 l0_3.length c0_3, .slice A0_4 l0_4.length c0_4], .agg #[.int .u64 a0_0, .int .u64 a0_1, .int .u64 a0_2, .slice A0_3 l0_3.length c0_3, .slice none 0 0]] (by rfl) rfl rfl bM ?_
        refine (prec_Compare.calls kj4 a0_0 a0_1 a0_2 _ _ l0_3 _ _ l0_4 a0_0 a0_1 a0_2 _ _ l0_3 _ _ ([] : List ByteArray) t109 _ ?side1 ?side2 ?side3 ?side4 ?side5 ?side6 ?side7 ?side8 A24.out).mono ?_
        (case side1 => exact sW (Kd.C_below HR0_3.out HB.out))
        (case side2 => exact HC0_3.out)
        (case side3 => exact sW (Kd.C_below HR0_4.out HB.out))
        (case side4 => exact HC0_4.out)
        (case side5 => exact sW (Kd.C_below HR0_3.out HB.out))
        (case side6 => exact HC0_3.out)
        (case side7 => exact Kd.C_nil _ _)
        (case side8 => exact Nat.le_refl _)
        rintro e w39 ⟨rfl, hb⟩
        refine ⟨_, rfl, ?_⟩
        replace BK101 := aK BK101 hb
        replace BK102 := aK BK102 hb
        replace BK106 := aK BK106 hb
        replace HB := aB HB hb
        (try clear hb)
        (try clear hb2)
        (try clear hk)
        (try clear hi)
        refine hK.out _ _ ⟨(blk_cell BK101.out 0).trans rfl, (blk_cell BK101.out 1).trans rfl, (blk_cell BK101.out 2).trans rfl, (blk_cell BK101.out 3).trans rfl, (blk_cell BK101.out 4).trans rfl, (blk_cell BK102.out 0).trans rfl, (blk_cell BK102.out 1).trans rfl, (blk_cell BK102.out 2).trans rfl, (blk_cell BK102.out 3).trans rfl, (blk_cell BK102.out 4).trans rfl, (blk_cell BK106.out 0).trans rfl, (blk_cell BK106.out 1).trans rfl, (blk_cell BK106.out 2).trans rfl, (blk_cell BK106.out 3).trans rfl, (blk_cell BK106.out 4).trans rfl⟩ (fun hHeld => ?_)
        clear hK K
        refine norm_ (a' := ?_) ?_ ?_
        rotate_left
        ·show Act.put _ (some 28) _ = _
         simp only [Act.put, List.setIfInBounds_toArray, List.set_cons_zero, List.set_cons_succ, i64_w, i32_w]
         rfl
        refine pV 11 29 rfl rfl ?_
        refine pV 12 30 rfl rfl ?_
        refine pV 13 31 rfl rfl ?_
        refine tV 14 32 rfl rfl ?_
        refine tV 15 33 rfl rfl ?_
        refine one_ (i := 16) (N := some 34) #[true, true, true, true, true, true, true, true, true, true, true, true, true, true, true, true, true, false, false, false, false, false, false, false, false, false, false, false, false, false, false] rfl rfl (one_of HT_.out (by kernel_rfl)) (by decide) (fun K hK => ?_)
        refine goes_ Tryd.func38 (by kernel_rfl) rfl #[.agg #[.int .u64 a0_0, .int .u64 a0_1, .int .u64 a0_2, .slice A0_3 l0_3.length c0_3, .slice none 0 0], .agg #[.int .u64 a0_0, .int .u64 a0_1, .int .u64 a0_2, .slice A0_3 l0_3.length c0_3, .slice A0_4 l0_4.length c0_4]] (by rfl) rfl rfl bM ?_
        refine (prec_Full.calls kj4 a0_0 a0_1 a0_2 _ _ l0_3 _ _ ([] : List ByteArray) a0_0 a0_1 a0_2 _ _ l0_3 _ _ l0_4 t110 _ ?side1 ?side2 ?side3 ?side4 ?side5 ?side6 ?side7 ?side8 A26.out).mono ?_
        (case side1 => exact sW (Kd.C_below HR0_3.out HB.out))
        (case side2 => exact HC0_3.out)
        (case side3 => exact Kd.C_nil _ _)
        (case side4 => exact Nat.le_refl _)
        (case side5 => exact sW (Kd.C_below HR0_3.out HB.out))
        (case side6 => exact HC0_3.out)
        (case side7 => exact sW (Kd.C_below HR0_4.out HB.out))
        (case side8 => exact HC0_4.out)
        rintro e w40 ⟨rfl, hb⟩
        refine ⟨_, rfl, ?_⟩
        replace BK101 := aK BK101 hb
        replace BK102 := aK BK102 hb
        replace BK106 := aK BK106 hb
        replace HB := aB HB hb
        (try clear hb)
        (try clear hb2)
        (try clear hk)
        (try clear hi)
        refine hK.out _ _ ⟨(blk_cell BK101.out 0).trans rfl, (blk_cell BK101.out 1).trans rfl, (blk_cell BK101.out 2).trans rfl, (blk_cell BK101.out 3).trans rfl, (blk_cell BK101.out 4).trans rfl, (blk_cell BK102.out 0).trans rfl, (blk_cell BK102.out 1).trans rfl, (blk_cell BK102.out 2).trans rfl, (blk_cell BK102.out 3).trans rfl, (blk_cell BK102.out 4).trans rfl, (blk_cell BK106.out 0).trans rfl, (blk_cell BK106.out 1).trans rfl, (blk_cell BK106.out 2).trans rfl, (blk_cell BK106.out 3).trans rfl, (blk_cell BK106.out 4).trans rfl⟩ (fun hHeld => ?_)
        clear hK K
        refine norm_ (a' := ?_) ?_ ?_
        rotate_left
        ·show Act.put _ (some 34) _ = _
         simp only [Act.put, List.setIfInBounds_toArray, List.set_cons_zero, List.set_cons_succ, i64_w, i32_w]
         rfl
        refine pV 17 35 rfl rfl ?_
        refine pV 18 36 rfl rfl ?_
        refine pV 19 37 rfl rfl ?_
        refine pV 24 42 rfl rfl ?_
        refine tV 20 38 rfl rfl ?_
        refine tV 21 39 rfl rfl ?_
        refine tV 25 43 rfl rfl ?_
        refine pV 26 44 rfl rfl ?_
        refine pV 27 45 rfl rfl ?_
        refine one_ (i := 22) (N := some 40) #[true, true, true, true, true, true, true, true, true, true, true, true, true, true, true, true, true, true, true, true, true, true, true, false, true, true, true, true, false, false, false] rfl rfl (one_of HT_.out (by kernel_rfl)) (by decide) (fun K hK => ?_)
        refine goes_ Tryd.func38 (by kernel_rfl) rfl #[.agg #[.int .u64 a0_0, .int .u64 a0_1, .int .u64 a0_2, .slice A0_3 l0_3.length c0_3, .slice none 0 0], .agg #[.int .u64 a0_0, .int .u64 a0_1, .int .u64 a0_2, .slice A0_3 l0_3.length c0_3, .slice A0_4 l0_4.length c0_4]] (by rfl) rfl rfl bM ?_
        refine (prec_Full.calls kj4 a0_0 a0_1 a0_2 _ _ l0_3 _ _ ([] : List ByteArray) a0_0 a0_1 a0_2 _ _ l0_3 _ _ l0_4 t111 _ ?side1 ?side2 ?side3 ?side4 ?side5 ?side6 ?side7 ?side8 A28.out).mono ?_
        (case side1 => exact sW (Kd.C_below HR0_3.out HB.out))
        (case side2 => exact HC0_3.out)
        (case side3 => exact Kd.C_nil _ _)
        (case side4 => exact Nat.le_refl _)
        (case side5 => exact sW (Kd.C_below HR0_3.out HB.out))
        (case side6 => exact HC0_3.out)
        (case side7 => exact sW (Kd.C_below HR0_4.out HB.out))
        (case side8 => exact HC0_4.out)
        rintro e w41 ⟨rfl, hb⟩
        refine ⟨_, rfl, ?_⟩
        replace BK101 := aK BK101 hb
        replace BK102 := aK BK102 hb
        replace BK106 := aK BK106 hb
        replace HB := aB HB hb
        (try clear hb)
        (try clear hb2)
        (try clear hk)
        (try clear hi)
        refine hK.out _ _ ⟨(blk_cell BK101.out 0).trans rfl, (blk_cell BK101.out 1).trans rfl, (blk_cell BK101.out 2).trans rfl, (blk_cell BK101.out 3).trans rfl, (blk_cell BK101.out 4).trans rfl, (blk_cell BK102.out 0).trans rfl, (blk_cell BK102.out 1).trans rfl, (blk_cell BK102.out 2).trans rfl, (blk_cell BK102.out 3).trans rfl, (blk_cell BK102.out 4).trans rfl, (blk_cell BK106.out 0).trans rfl, (blk_cell BK106.out 1).trans rfl, (blk_cell BK106.out 2).trans rfl, (blk_cell BK106.out 3).trans rfl, (blk_cell BK106.out 4).trans rfl⟩ (fun hHeld => ?_)
        clear hK K
        refine norm_ (a' := ?_) ?_ ?_
        rotate_left
        ·show Act.put _ (some 40) _ = _
         simp only [Act.put, List.setIfInBounds_toArray, List.set_cons_zero, List.set_cons_succ, i64_w, i32_w]
         rfl
        refine pV 23 41 rfl rfl ?_
        refine pV 28 46 rfl rfl ?_
        refine pV 29 47 rfl rfl ?_
        refine pV 30 4 rfl rfl ?_
        refine done_ (done_of HT_.out (by kernel_rfl)) ?_
        try go_wp2
        go_ret
        exact ⟨by first | rfl | (simp [errW_none, errW_some] <;> rfl) | (simp [*, errW_none, errW_some] <;> rfl), bB⟩
       ·rw [if_neg c27] at H
        have c27b0 : decide (t110 ≤ 0) = false := decide_eq_false c27
        clear c27
        obtain rfl := Option.some.inj H
        have hnb42 := NB101_102.out
        have hnc42 := NB102_101.out
        have hcz43_0 : wc.cell? ⟨gb101, 0, none⟩ = some (.int .u64 a0_0) := (blk_cell BK101.out 0).trans rfl
        have hcz43_1 : wc.cell? ⟨gb101, 1, none⟩ = some (.int .u64 a0_1) := (blk_cell BK101.out 1).trans rfl
        have hcz43_2 : wc.cell? ⟨gb101, 2, none⟩ = some (.int .u64 a0_2) := (blk_cell BK101.out 2).trans rfl
        have hcz43_3 : wc.cell? ⟨gb101, 3, none⟩ = some (.slice A0_3 l0_3.length c0_3) := (blk_cell BK101.out 3).trans rfl
        have hcz43_4 : wc.cell? ⟨gb101, 4, none⟩ = some (.slice A0_4 l0_4.length c0_4) := (blk_cell BK101.out 4).trans rfl
        have hfz43_0 := blk_frozen BK101.out 0
        have hfz43_1 := blk_frozen BK101.out 1
        have hfz43_2 := blk_frozen BK101.out 2
        have hfz43_3 := blk_frozen BK101.out 3
        have hfz43_4 := blk_frozen BK101.out 4
        try go_wp2_with (first | ((with_reducible refine gate_dst (N := 5) rfl ?_); (try (refine gate_guard (by rfl) ?_; dsimp only)); refine box_event ?hg (N := 5) ?hd (cs := #[.int .u64 0, .int .u64 0, .int .u64 0, .slice none 0 0, .slice none 0 0]) (t := 40) ?hr ?_; (case hd => rfl); (case hg => rfl); (case hr => first | (go_simp; done) | (go_simp; rfl)); intro gb106 hg w44 hbox hb; have BK106 := Aside0.mk hbox; have GW106 := Aside0.mk ((by rw [hg]; exact (below_size bB) : w.heap.size ≤ gb106)); have GE106 := Aside0.mk ((by rw [hg]; exact (below_size bB) : w.heap.size ≤ gb106)); replace HB := aB HB hb; have NB101_106 := Aside0.mk ((by rw [hg]; exact Nat.ne_of_lt (blk_lt (g := gb101) (o := .cells #[.int .u64 a0_0, .int .u64 a0_1, .int .u64 a0_2, .slice A0_3 l0_3.length c0_3, .slice A0_4 l0_4.length c0_4] 40 (0, 0)) (aKw BK101)) : gb101 ≠ gb106)); have NB106_101 := Aside0.mk ((by rw [hg]; exact Nat.ne_of_gt (blk_lt (g := gb101) (o := .cells #[.int .u64 a0_0, .int .u64 a0_1, .int .u64 a0_2, .slice A0_3 l0_3.length c0_3, .slice A0_4 l0_4.length c0_4] 40 (0, 0)) (aKw BK101)) : gb106 ≠ gb101)); replace BK101 := aK BK101 hb; have NB102_106 := Aside0.mk ((by rw [hg]; exact Nat.ne_of_lt (blk_lt (g := gb102) (o := .cells #[.int .u64 a1_0, .int .u64 a1_1, .int .u64 a1_2, .slice A1_3 l1_3.length c1_3, .slice A1_4 l1_4.length c1_4] 40 (0, 0)) (aKw BK102)) : gb102 ≠ gb106)); have NB106_102 := Aside0.mk ((by rw [hg]; exact Nat.ne_of_gt (blk_lt (g := gb102) (o := .cells #[.int .u64 a1_0, .int .u64 a1_1, .int .u64 a1_2, .slice A1_3 l1_3.length c1_3, .slice A1_4 l1_4.length c1_4] 40 (0, 0)) (aKw BK102)) : gb106 ≠ gb102)); replace BK102 := aK BK102 hb; clear hb hbox hg; have hnb45 := NB106_101.out; have hnc45 := NB101_106.out; have hnb46 := NB106_102.out; have hnc46 := NB102_106.out; have hcz47_0 : w44.cell? ⟨gb106, 0, none⟩ = some (.int .u64 0) := (blk_cell BK106.out 0).trans rfl; have hcz47_1 : w44.cell? ⟨gb106, 1, none⟩ = some (.int .u64 0) := (blk_cell BK106.out 1).trans rfl; have hcz47_2 : w44.cell? ⟨gb106, 2, none⟩ = some (.int .u64 0) := (blk_cell BK106.out 2).trans rfl; have hcz47_3 : w44.cell? ⟨gb106, 3, none⟩ = some (.slice none 0 0) := (blk_cell BK106.out 3).trans rfl; have hcz47_4 : w44.cell? ⟨gb106, 4, none⟩ = some (.slice none 0 0) := (blk_cell BK106.out 4).trans rfl; have hfz47_0 := blk_frozen BK106.out 0; have hfz47_1 := blk_frozen BK106.out 1; have hfz47_2 := blk_frozen BK106.out 2; have hfz47_3 := blk_frozen BK106.out 3; have hfz47_4 := blk_frozen BK106.out 4))
        generalize hW_ : ((((((w44.setCell ⟨gb106, 0, none⟩ (.int .u64 a0_0)).setCell ⟨gb106, 1, none⟩ (.int .u64 a0_1)).setCell ⟨gb106, 2, none⟩ (.int .u64 a0_2)).setCell ⟨gb106, 3, none⟩ (.slice A0_3 l0_3.length c0_3)).setCell ⟨gb106, 4, none⟩ (.slice A0_4 l0_4.length c0_4)).setCell ⟨gb106, 4, none⟩ (.slice none 0 0)) = w48
        have n0_ : Aside0 (w48.heap[gb101]? = some (.cells #[.int .u64 a0_0, .int .u64 a0_1, .int .u64 a0_2, .slice A0_3 l0_3.length c0_3, .slice A0_4 l0_4.length c0_4] 40 (0, 0))) := ⟨by subst hW_; (with_reducible repeat (first | refine blk_drewN ?_ _ | refine blk_drew ?_ | refine blk_alloc ?_ _)); refine blk_far ?_ NB101_106.out _; (with_reducible repeat (first | refine blk_drewN ?_ _ | refine blk_drew ?_ | refine blk_alloc ?_ _)); refine blk_far ?_ NB101_106.out _; (with_reducible repeat (first | refine blk_drewN ?_ _ | refine blk_drew ?_ | refine blk_alloc ?_ _)); refine blk_far ?_ NB101_106.out _; (with_reducible repeat (first | refine blk_drewN ?_ _ | refine blk_drew ?_ | refine blk_alloc ?_ _)); refine blk_far ?_ NB101_106.out _; (with_reducible repeat (first | refine blk_drewN ?_ _ | refine blk_drew ?_ | refine blk_alloc ?_ _)); refine blk_far ?_ NB101_106.out _; (with_reducible repeat (first | refine blk_drewN ?_ _ | refine blk_drew ?_ | refine blk_alloc ?_ _)); refine blk_far ?_ NB101_106.out _; (with_reducible repeat (first | refine blk_drewN ?_ _ | refine blk_drew ?_ | refine blk_alloc ?_ _)); exact BK101.out⟩
        have n1_ : Aside0 (w48.heap[gb102]? = some (.cells #[.int .u64 a1_0, .int .u64 a1_1, .int .u64 a1_2, .slice A1_3 l1_3.length c1_3, .slice A1_4 l1_4.length c1_4] 40 (0, 0))) := ⟨by subst hW_; (with_reducible repeat (first | refine blk_drewN ?_ _ | refine blk_drew ?_ | refine blk_alloc ?_ _)); refine blk_far ?_ NB102_106.out _; (with_reducible repeat (first | refine blk_drewN ?_ _ | refine blk_drew ?_ | refine blk_alloc ?_ _)); refine blk_far ?_ NB102_106.out _; (with_reducible repeat (first | refine blk_drewN ?_ _ | refine blk_drew ?_ | refine blk_alloc ?_ _)); refine blk_far ?_ NB102_106.out _; (with_reducible repeat (first | refine blk_drewN ?_ _ | refine blk_drew ?_ | refine blk_alloc ?_ _)); refine blk_far ?_ NB102_106.out _; (with_reducible repeat (first | refine blk_drewN ?_ _ | refine blk_drew ?_ | refine blk_alloc ?_ _)); refine blk_far ?_ NB102_106.out _; (with_reducible repeat (first | refine blk_drewN ?_ _ | refine blk_drew ?_ | refine blk_alloc ?_ _)); refine blk_far ?_ NB102_106.out _; (with_reducible repeat (first | refine blk_drewN ?_ _ | refine blk_drew ?_ | refine blk_alloc ?_ _)); exact BK102.out⟩
        have n2_ : Aside0 (w48.heap[gb106]? = some (.cells #[.int .u64 a0_0, .int .u64 a0_1, .int .u64 a0_2, .slice A0_3 l0_3.length c0_3, .slice none 0 0] 40 (0, 0))) := ⟨by subst hW_; (with_reducible repeat (first | refine blk_drewN ?_ _ | refine blk_drew ?_ | refine blk_alloc ?_ _)); refine blk_put (cs := #[.int .u64 a0_0, .int .u64 a0_1, .int .u64 a0_2, .slice A0_3 l0_3.length c0_3, .slice A0_4 l0_4.length c0_4]) ?_ 4 _ rfl; (with_reducible repeat (first | refine blk_drewN ?_ _ | refine blk_drew ?_ | refine blk_alloc ?_ _)); refine blk_put (cs := #[.int .u64 a0_0, .int .u64 a0_1, .int .u64 a0_2, .slice A0_3 l0_3.length c0_3, .slice none 0 0]) ?_ 4 _ rfl; (with_reducible repeat (first | refine blk_drewN ?_ _ | refine blk_drew ?_ | refine blk_alloc ?_ _)); refine blk_put (cs := #[.int .u64 a0_0, .int .u64 a0_1, .int .u64 a0_2, .slice none 0 0, .slice none 0 0]) ?_ 3 _ rfl; (with_reducible repeat (first | refine blk_drewN ?_ _ | refine blk_drew ?_ | refine blk_alloc ?_ _)); refine blk_put (cs := #[.int .u64 a0_0, .int .u64 a0_1, .int .u64 0, .slice none 0 0, .slice none 0 0]) ?_ 2 _ rfl; (with_reducible repeat (first | refine blk_drewN ?_ _ | refine blk_drew ?_ | refine blk_alloc ?_ _)); refine blk_put (cs := #[.int .u64 a0_0, .int .u64 0, .int .u64 0, .slice none 0 0, .slice none 0 0]) ?_ 1 _ rfl; (with_reducible repeat (first | refine blk_drewN ?_ _ | refine blk_drew ?_ | refine blk_alloc ?_ _)); refine blk_put (cs := #[.int .u64 0, .int .u64 0, .int .u64 0, .slice none 0 0, .slice none 0 0]) ?_ 0 _ rfl; (with_reducible repeat (first | refine blk_drewN ?_ _ | refine blk_drew ?_ | refine blk_alloc ?_ _)); exact BK106.out⟩
        have n3_ : Aside0 (Below w.heap.size w w48) := ⟨by subst hW_; exact bB⟩
        (try clear BK101)
        (try clear BK102)
        (try clear BK106)
        (try clear HB)
        clear hW_
        have BK101 := n0_
        have BK102 := n1_
        have BK106 := n2_
        have HB := n3_
        clear n0_ n1_ n2_ n3_
        replace BK101 := Aside0.mk (blk_drew BK101.out)
        replace BK102 := Aside0.mk (blk_drew BK102.out)
        replace BK106 := Aside0.mk (blk_drew BK106.out)
        replace HB := Aside0.mk (below_drew1 HB.out)
        refine start_ (n := 31) (S := fun w' => w'.cell? ⟨gb101, 0, none⟩ = some (.int .u64 a0_0) ∧ w'.cell? ⟨gb101, 1, none⟩ = some (.int .u64 a0_1) ∧ w'.cell? ⟨gb101, 2, none⟩ = some (.int .u64 a0_2) ∧ w'.cell? ⟨gb101, 3, none⟩ = some (.slice A0_3 l0_3.length c0_3) ∧ w'.cell? ⟨gb101, 4, none⟩ = some (.slice A0_4 l0_4.length c0_4) ∧ w'.cell? ⟨gb102, 0, none⟩ = some (.int .u64 a1_0) ∧ w'.cell? ⟨gb102, 1, none⟩ = some (.int .u64 a1_1) ∧ w'.cell? ⟨gb102, 2, none⟩ = some (.int .u64 a1_2) ∧ w'.cell? ⟨gb102, 3, none⟩ = some (.slice A1_3 l1_3.length c1_3) ∧ w'.cell? ⟨gb102, 4, none⟩ = some (.slice A1_4 l1_4.length c1_4) ∧ w'.cell? ⟨gb106, 0, none⟩ = some (.int .u64 a0_0) ∧ w'.cell? ⟨gb106, 1, none⟩ = some (.int .u64 a0_1) ∧ w'.cell? ⟨gb106, 2, none⟩ = some (.int .u64 a0_2) ∧ w'.cell? ⟨gb106, 3, none⟩ = some (.slice A0_3 l0_3.length c0_3) ∧ w'.cell? ⟨gb106, 4, none⟩ = some (.slice none 0 0)) (ds := []) #[false, false, false, false, false, false, false, false, false, false, false, false, false, false, false, false, false, false, false, false, false, false, false, false, false, false, false, false, false, false, false] (by kernel_rfl) rfl rfl ⟨(blk_cell BK101.out 0).trans rfl, (blk_cell BK101.out 1).trans rfl, (blk_cell BK101.out 2).trans rfl, (blk_cell BK101.out 3).trans rfl, (blk_cell BK101.out 4).trans rfl, (blk_cell BK102.out 0).trans rfl, (blk_cell BK102.out 1).trans rfl, (blk_cell BK102.out 2).trans rfl, (blk_cell BK102.out 3).trans rfl, (blk_cell BK102.out 4).trans rfl, (blk_cell BK106.out 0).trans rfl, (blk_cell BK106.out 1).trans rfl, (blk_cell BK106.out 2).trans rfl, (blk_cell BK106.out 3).trans rfl, (blk_cell BK106.out 4).trans rfl⟩ (fun hHeld => ?_); refine with_tabW ferrulelaw04_PrecBuilds.tab7 ferrulelaw04_PrecBuilds.bits7 (fun HT_ HW_ => ?_)
        generalize w48.drew = w49 at BK101 BK102 BK106 HB hHeld ⊢
        refine tV 0 18 rfl rfl ?_
        refine tV 1 19 rfl rfl ?_
        refine tV 3 21 rfl rfl ?_
        refine tV 4 22 rfl rfl ?_
        refine one_ (i := 2) (N := some 20) #[true, true, true, true, true, false, false, false, false, false, false, false, false, false, false, false, false, false, false, false, false, false, false, false, false, false, false, false, false, false, false] rfl rfl (one_of HT_.out (by kernel_rfl)) (by decide) (fun K hK => ?_)
        refine goes_ Tryd.func31 (by kernel_rfl) rfl #[.agg #[.int .u64 a0_0, .int .u64 a0_1, .int .u64 a0_2, .slice A0_3 l0_3.length c0_3, .slice A0_4 l0_4.length c0_4], .agg #[.int .u64 a1_0, .int .u64 a1_1, .int .u64 a1_2, .slice A1_3 l1_3.length c1_3, .slice A1_4 l1_4.length c1_4]] (by rfl) rfl rfl bM ?_
        with_reducible refine (prec_Compare.calls kj4 a0_0 a0_1 a0_2 _ _ l0_3 _ _ l0_4 a1_0 a1_1 a1_2 _ _ l1_3 _ _ l1_4 t107 _ ?side1 ?side2 ?side3 ?side4 ?side5 ?side6 ?side7 ?side8 A21.out).mono ?_
        (case side1 => exact sW (Kd.C_below HR0_3.out HB.out))
        (case side2 => exact HC0_3.out)
        (case side3 => exact sW (Kd.C_below HR0_4.out HB.out))
        (case side4 => exact HC0_4.out)
        (case side5 => exact sW (Kd.C_below HR1_3.out HB.out))
        (case side6 => exact HC1_3.out)
        (case side7 => exact sW (Kd.C_below HR1_4.out HB.out))
        (case side8 => exact HC1_4.out)
        rintro e w50 ⟨rfl, hb⟩
        refine ⟨_, rfl, ?_⟩
        replace BK101 := aK BK101 hb
        replace BK102 := aK BK102 hb
        replace BK106 := aK BK106 hb
        replace HB := aB HB hb
        (try clear hb)
        (try clear hb2)
        (try clear hk)
        (try clear hi)
        refine hK.out _ _ ⟨(blk_cell BK101.out 0).trans rfl, (blk_cell BK101.out 1).trans rfl, (blk_cell BK101.out 2).trans rfl, (blk_cell BK101.out 3).trans rfl, (blk_cell BK101.out 4).trans rfl, (blk_cell BK102.out 0).trans rfl, (blk_cell BK102.out 1).trans rfl, (blk_cell BK102.out 2).trans rfl, (blk_cell BK102.out 3).trans rfl, (blk_cell BK102.out 4).trans rfl, (blk_cell BK106.out 0).trans rfl, (blk_cell BK106.out 1).trans rfl, (blk_cell BK106.out 2).trans rfl, (blk_cell BK106.out 3).trans rfl, (blk_cell BK106.out 4).trans rfl⟩ (fun hHeld => ?_)
        clear hK K
        refine norm_ (a' := ?_) ?_ ?_
        rotate_left
        ·show Act.put _ (some 20) _ = _
         simp only [Act.put, List.setIfInBounds_toArray, List.set_cons_zero, List.set_cons_succ, i64_w, i32_w]
         rfl
        refine one_ (i := 5) (N := some 23) #[true, true, true, true, true, true, false, false, false, false, false, false, false, false, false, false, false, false, false, false, false, false, false, false, false, false, false, false, false, false, false] rfl rfl (one_of HT_.out (by kernel_rfl)) (by decide) (fun K hK => ?_)
        refine goes_ Tryd.func31 (by kernel_rfl) rfl #[.agg #[.int .u64 a0_0, .int .u64 a0_1, .int .u64 a0_2, .slice A0_3 l0_3.length c0_3, .slice none 0 0], .agg #[.int .u64 a1_0, .int .u64 a1_1, .int .u64 a1_2, .slice A1_3 l1_3.length c1_3, .slice A1_4 l1_4.length c1_4]] (by rfl) rfl rfl bM ?_
        refine (prec_Compare.calls kj4 a0_0 a0_1 a0_2 _ _ l0_3 _ _ ([] : List ByteArray) a1_0 a1_1 a1_2 _ _ l1_3 _ _ l1_4 t108 _ ?side1 ?side2 ?side3 ?side4 ?side5 ?side6 ?side7 ?side8 A22.out).mono ?_
        (case side1 => exact sW (Kd.C_below HR0_3.out HB.out))
        (case side2 => exact HC0_3.out)
        (case side3 => exact Kd.C_nil _ _)
        (case side4 => exact Nat.le_refl _)
        (case side5 => exact sW (Kd.C_below HR1_3.out HB.out))
        (case side6 => exact HC1_3.out)
        (case side7 => exact sW (Kd.C_below HR1_4.out HB.out))
        (case side8 => exact HC1_4.out)
        rintro e w51 ⟨rfl, hb⟩
        refine ⟨_, rfl, ?_⟩
        replace BK101 := aK BK101 hb
        replace BK102 := aK BK102 hb
        replace BK106 := aK BK106 hb
        replace HB := aB HB hb
        (try clear hb)
        (try clear hb2)
        (try clear hk)
        (try clear hi)
        refine hK.out _ _ ⟨(blk_cell BK101.out 0).trans rfl, (blk_cell BK101.out 1).trans rfl, (blk_cell BK101.out 2).trans rfl, (blk_cell BK101.out 3).trans rfl, (blk_cell BK101.out 4).trans rfl, (blk_cell BK102.out 0).trans rfl, (blk_cell BK102.out 1).trans rfl, (blk_cell BK102.out 2).trans rfl, (blk_cell BK102.out 3).trans rfl, (blk_cell BK102.out 4).trans rfl, (blk_cell BK106.out 0).trans rfl, (blk_cell BK106.out 1).trans rfl, (blk_cell BK106.out 2).trans rfl, (blk_cell BK106.out 3).trans rfl, (blk_cell BK106.out 4).trans rfl⟩ (fun hHeld => ?_)
        clear hK K
        refine norm_ (a' := ?_) ?_ ?_
        rotate_left
        ·show Act.put _ (some 23) _ = _
         simp only [Act.put, List.setIfInBounds_toArray, List.set_cons_zero, List.set_cons_succ, i64_w, i32_w]
         rfl
        refine pV 6 24 rfl rfl ?_
        refine pV 7 25 rfl rfl ?_
        refine tV 8 26 rfl rfl ?_
        refine tV 9 27 rfl rfl ?_
        refine one_ (i := 10) (N := some 28) #[true, true, true, true, true, true, true, true, true, true, true, false, false, false, false, false, false, false, false, false, false, false, false, false, false, false, false, false, false, false, false] rfl rfl (one_of HT_.out (by kernel_rfl)) (by decide) (fun K hK => ?_)
        refine goes_ Tryd.func31 (by kernel_rfl) rfl #[.agg #[.int .u64 a0_0, .int .u64 a0_1, .int .u64 a0_2, .slice A0_3 l0_3.length c0_3, .slice A0_4 l0_4.length c0_4], .agg #[.int .u64 a0_0, .int .u64 a0_1, .int .u64 a0_2, .slice A0_3 l0_3.length c0_3, .slice none 0 0]] (by rfl) rfl rfl bM ?_
        refine (prec_Compare.calls kj4 a0_0 a0_1 a0_2 _ _ l0_3 _ _ l0_4 a0_0 a0_1 a0_2 _ _ l0_3 _ _ ([] : List ByteArray) t109 _ ?side1 ?side2 ?side3 ?side4 ?side5 ?side6 ?side7 ?side8 A24.out).mono ?_
        (case side1 => exact sW (Kd.C_below HR0_3.out HB.out))
        (case side2 => exact HC0_3.out)
        (case side3 => exact sW (Kd.C_below HR0_4.out HB.out))
        (case side4 => exact HC0_4.out)
        (case side5 => exact sW (Kd.C_below HR0_3.out HB.out))
        (case side6 => exact HC0_3.out)
        (case side7 => exact Kd.C_nil _ _)
        (case side8 => exact Nat.le_refl _)
        rintro e w52 ⟨rfl, hb⟩
        refine ⟨_, rfl, ?_⟩
        replace BK101 := aK BK101 hb
        replace BK102 := aK BK102 hb
        replace BK106 := aK BK106 hb
        replace HB := aB HB hb
        (try clear hb)
        (try clear hb2)
        (try clear hk)
        (try clear hi)
        refine hK.out _ _ ⟨(blk_cell BK101.out 0).trans rfl, (blk_cell BK101.out 1).trans rfl, (blk_cell BK101.out 2).trans rfl, (blk_cell BK101.out 3).trans rfl, (blk_cell BK101.out 4).trans rfl, (blk_cell BK102.out 0).trans rfl, (blk_cell BK102.out 1).trans rfl, (blk_cell BK102.out 2).trans rfl, (blk_cell BK102.out 3).trans rfl, (blk_cell BK102.out 4).trans rfl, (blk_cell BK106.out 0).trans rfl, (blk_cell BK106.out 1).trans rfl, (blk_cell BK106.out 2).trans rfl, (blk_cell BK106.out 3).trans rfl, (blk_cell BK106.out 4).trans rfl⟩ (fun hHeld => ?_)
        clear hK K
        refine norm_ (a' := ?_) ?_ ?_
        rotate_left
        ·show Act.put _ (some 28) _ = _
         simp only [Act.put, List.setIfInBounds_toArray, List.set_cons_zero, List.set_cons_succ, i64_w, i32_w]
         rfl
        refine pV 11 29 rfl rfl ?_
        refine pV 12 30 rfl rfl ?_
        refine pV 13 31 rfl rfl ?_
        refine tV 14 32 rfl rfl ?_
        refine tV 15 33 rfl rfl ?_
        refine one_ (i := 16) (N := some 34) #[true, true, true, true, true, true, true, true, true, true, true, true, true, true, true, true, true, false, false, false, false, false, false, false, false, false, false, false, false, false, false] rfl rfl (one_of HT_.out (by kernel_rfl)) (by decide) (fun K hK => ?_)
        refine goes_ Tryd.func38 (by kernel_rfl) rfl #[.agg #[.int .u64 a0_0, .int .u64 a0_1, .int .u64 a0_2, .slice A0_3 l0_3.length c0_3, .slice none 0 0], .agg #[.int .u64 a0_0, .int .u64 a0_1, .int .u64 a0_2, .slice A0_3 l0_3.length c0_3, .slice A0_4 l0_4.length c0_4]] (by rfl) rfl rfl bM ?_
        refine (prec_Full.calls kj4 a0_0 a0_1 a0_2 _ _ l0_3 _ _ ([] : List ByteArray) a0_0 a0_1 a0_2 _ _ l0_3 _ _ l0_4 t110 _ ?side1 ?side2 ?side3 ?side4 ?side5 ?side6 ?side7 ?side8 A26.out).mono ?_
        (case side1 => exact sW (Kd.C_below HR0_3.out HB.out))
        (case side2 => exact HC0_3.out)
        (case side3 => exact Kd.C_nil _ _)
        (case side4 => exact Nat.le_refl _)
        (case side5 => exact sW (Kd.C_below HR0_3.out HB.out))
        (case side6 => exact HC0_3.out)
        (case side7 => exact sW (Kd.C_below HR0_4.out HB.out))
        (case side8 => exact HC0_4.out)
        rintro e w53 ⟨rfl, hb⟩
        refine ⟨_, rfl, ?_⟩
        replace BK101 := aK BK101 hb
        replace BK102 := aK BK102 hb
        replace BK106 := aK BK106 hb
        replace HB := aB HB hb
        (try clear hb)
        (try clear hb2)
        (try clear hk)
        (try clear hi)
        refine hK.out _ _ ⟨(blk_cell BK101.out 0).trans rfl, (blk_cell BK101.out 1).trans rfl, (blk_cell BK101.out 2).trans rfl, (blk_cell BK101.out 3).trans rfl, (blk_cell BK101.out 4).trans rfl, (blk_cell BK102.out 0).trans rfl, (blk_cell BK102.out 1).trans rfl, (blk_cell BK102.out 2).trans rfl, (blk_cell BK102.out 3).trans rfl, (blk_cell BK102.out 4).trans rfl, (blk_cell BK106.out 0).trans rfl, (blk_cell BK106.out 1).trans rfl, (blk_cell BK106.out 2).trans rfl, (blk_cell BK106.out 3).trans rfl, (blk_cell BK106.out 4).trans rfl⟩ (fun hHeld => ?_)
        clear hK K
        refine norm_ (a' := ?_) ?_ ?_
        rotate_left
        ·show Act.put _ (some 34) _ = _
         simp only [Act.put, List.setIfInBounds_toArray, List.set_cons_zero, List.set_cons_succ, i64_w, i32_w]
         rfl
        refine pV 17 35 rfl rfl ?_
        refine pV 18 36 rfl rfl ?_
        refine pV 19 37 rfl rfl ?_
        refine pU 20 38 rfl rfl ?_
        refine pU 21 39 rfl rfl ?_
        refine pU 22 40 rfl rfl ?_
        refine pU 23 41 rfl rfl ?_
        refine pU 24 42 rfl rfl ?_
        refine pU 25 43 rfl rfl ?_
        refine pU 26 44 rfl rfl ?_
        refine pU 27 45 rfl rfl ?_
        refine pU 28 46 rfl rfl ?_
        refine pV 29 47 rfl rfl ?_
        refine pV 30 4 rfl rfl ?_
        refine done_ (done_of HT_.out (by kernel_rfl)) ?_
        try go_wp2
        go_ret
        exact ⟨by first | rfl | (simp [errW_none, errW_some] <;> rfl) | (simp [*, errW_none, errW_some] <;> rfl), bB⟩
      ·rw [if_neg c25] at H
       have c25b0 : (t109 == 0) = false := beq_eq_false_iff_ne.mpr c25
       have c25b1 : (t109 != 0) = true := bne_iff_ne.mpr c25
       obtain rfl := Option.some.inj H
       have hnb54 := NB101_102.out
       have hnc54 := NB102_101.out
       have hcz55_0 : wc.cell? ⟨gb101, 0, none⟩ = some (.int .u64 a0_0) := (blk_cell BK101.out 0).trans rfl
       have hcz55_1 : wc.cell? ⟨gb101, 1, none⟩ = some (.int .u64 a0_1) := (blk_cell BK101.out 1).trans rfl
       have hcz55_2 : wc.cell? ⟨gb101, 2, none⟩ = some (.int .u64 a0_2) := (blk_cell BK101.out 2).trans rfl
       have hcz55_3 : wc.cell? ⟨gb101, 3, none⟩ = some (.slice A0_3 l0_3.length c0_3) := (blk_cell BK101.out 3).trans rfl
       have hcz55_4 : wc.cell? ⟨gb101, 4, none⟩ = some (.slice A0_4 l0_4.length c0_4) := (blk_cell BK101.out 4).trans rfl
       have hfz55_0 := blk_frozen BK101.out 0
       have hfz55_1 := blk_frozen BK101.out 1
       have hfz55_2 := blk_frozen BK101.out 2
       have hfz55_3 := blk_frozen BK101.out 3
       have hfz55_4 := blk_frozen BK101.out 4
       try go_wp2_with (first | ((with_reducible refine gate_dst (N := 5) rfl ?_); (try (refine gate_guard (by rfl) ?_; dsimp only)); refine box_event ?hg (N := 5) ?hd (cs := #[.int .u64 0, .int .u64 0, .int .u64 0, .slice none 0 0, .slice none 0 0]) (t := 40) ?hr ?_; (case hd => rfl); (case hg => rfl); (case hr => first | (go_simp; done) | (go_simp; rfl)); intro gb106 hg w56 hbox hb; have BK106 := Aside0.mk hbox; have GW106 := Aside0.mk ((by rw [hg]; exact (below_size bB) : w.heap.size ≤ gb106)); have GE106 := Aside0.mk ((by rw [hg]; exact (below_size bB) : w.heap.size ≤ gb106)); replace HB := aB HB hb; have NB101_106 := Aside0.mk ((by rw [hg]; exact Nat.ne_of_lt (blk_lt (g := gb101) (o := .cells #[.int .u64 a0_0, .int .u64 a0_1, .int .u64 a0_2, .slice A0_3 l0_3.length c0_3, .slice A0_4 l0_4.length c0_4] 40 (0, 0)) (aKw BK101)) : gb101 ≠ gb106)); have NB106_101 := Aside0.mk ((by rw [hg]; exact Nat.ne_of_gt (blk_lt (g := gb101) (o := .cells #[.int .u64 a0_0, .int .u64 a0_1, .int .u64 a0_2, .slice A0_3 l0_3.length c0_3, .slice A0_4 l0_4.length c0_4] 40 (0, 0)) (aKw BK101)) : gb106 ≠ gb101)); replace BK101 := aK BK101 hb; have NB102_106 := Aside0.mk ((by rw [hg]; exact Nat.ne_of_lt (blk_lt (g := gb102) (o := .cells #[.int .u64 a1_0, .int .u64 a1_1, .int .u64 a1_2, .slice A1_3 l1_3.length c1_3, .slice A1_4 l1_4.length c1_4] 40 (0, 0)) (aKw BK102)) : gb102 ≠ gb106)); have NB106_102 := Aside0.mk ((by rw [hg]; exact Nat.ne_of_gt (blk_lt (g := gb102) (o := .cells #[.int .u64 a1_0, .int .u64 a1_1, .int .u64 a1_2, .slice A1_3 l1_3.length c1_3, .slice A1_4 l1_4.length c1_4] 40 (0, 0)) (aKw BK102)) : gb106 ≠ gb102)); replace BK102 := aK BK102 hb; clear hb hbox hg; have hnb57 := NB106_101.out; have hnc57 := NB101_106.out; have hnb58 := NB106_102.out; have hnc58 := NB102_106.out; have hcz59_0 : w56.cell? ⟨gb106, 0, none⟩ = some (.int .u64 0) := (blk_cell BK106.out 0).trans rfl; have hcz59_1 : w56.cell? ⟨gb106, 1, none⟩ = some (.int .u64 0) := (blk_cell BK106.out 1).trans rfl; have hcz59_2 : w56.cell? ⟨gb106, 2, none⟩ = some (.int .u64 0) := (blk_cell BK106.out 2).trans rfl; have hcz59_3 : w56.cell? ⟨gb106, 3, none⟩ = some (.slice none 0 0) := (blk_cell BK106.out 3).trans rfl; have hcz59_4 : w56.cell? ⟨gb106, 4, none⟩ = some (.slice none 0 0) := (blk_cell BK106.out 4).trans rfl; have hfz59_0 := blk_frozen BK106.out 0; have hfz59_1 := blk_frozen BK106.out 1; have hfz59_2 := blk_frozen BK106.out 2; have hfz59_3 := blk_frozen BK106.out 3; have hfz59_4 := blk_frozen BK106.out 4))
       generalize hW_ : ((((((w56.setCell ⟨gb106, 0, none⟩ (.int .u64 a0_0)).setCell ⟨gb106, 1, none⟩ (.int .u64 a0_1)).setCell ⟨gb106, 2, none⟩ (.int .u64 a0_2)).setCell ⟨gb106, 3, none⟩ (.slice A0_3 l0_3.length c0_3)).setCell ⟨gb106, 4, none⟩ (.slice A0_4 l0_4.length c0_4)).setCell ⟨gb106, 4, none⟩ (.slice none 0 0)) = w60
       have n0_ : Aside0 (w60.heap[gb101]? = some (.cells #[.int .u64 a0_0, .int .u64 a0_1, .int .u64 a0_2, .slice A0_3 l0_3.length c0_3, .slice A0_4 l0_4.length c0_4] 40 (0, 0))) := ⟨by subst hW_; (with_reducible repeat (first | refine blk_drewN ?_ _ | refine blk_drew ?_ | refine blk_alloc ?_ _)); refine blk_far ?_ NB101_106.out _; (with_reducible repeat (first | refine blk_drewN ?_ _ | refine blk_drew ?_ | refine blk_alloc ?_ _)); refine blk_far ?_ NB101_106.out _; (with_reducible repeat (first | refine blk_drewN ?_ _ | refine blk_drew ?_ | refine blk_alloc ?_ _)); refine blk_far ?_ NB101_106.out _; (with_reducible repeat (first | refine blk_drewN ?_ _ | refine blk_drew ?_ | refine blk_alloc ?_ _)); refine blk_far ?_ NB101_106.out _; (with_reducible repeat (first | refine blk_drewN ?_ _ | refine blk_drew ?_ | refine blk_alloc ?_ _)); refine blk_far ?_ NB101_106.out _; (with_reducible repeat (first | refine blk_drewN ?_ _ | refine blk_drew ?_ | refine blk_alloc ?_ _)); refine blk_far ?_ NB101_106.out _; (with_reducible repeat (first | refine blk_drewN ?_ _ | refine blk_drew ?_ | refine blk_alloc ?_ _)); exact BK101.out⟩
       have n1_ : Aside0 (w60.heap[gb102]? = some (.cells #[.int .u64 a1_0, .int .u64 a1_1, .int .u64 a1_2, .slice A1_3 l1_3.length c1_3, .slice A1_4 l1_4.length c1_4] 40 (0, 0))) := ⟨by subst hW_; (with_reducible repeat (first | refine blk_drewN ?_ _ | refine blk_drew ?_ | refine blk_alloc ?_ _)); refine blk_far ?_ NB102_106.out _; (with_reducible repeat (first | refine blk_drewN ?_ _ | refine blk_drew ?_ | refine blk_alloc ?_ _)); refine blk_far ?_ NB102_106.out _; (with_reducible repeat (first | refine blk_drewN ?_ _ | refine blk_drew ?_ | refine blk_alloc ?_ _)); refine blk_far ?_ NB102_106.out _; (with_reducible repeat (first | refine blk_drewN ?_ _ | refine blk_drew ?_ | refine blk_alloc ?_ _)); refine blk_far ?_ NB102_106.out _; (with_reducible repeat (first | refine blk_drewN ?_ _ | refine blk_drew ?_ | refine blk_alloc ?_ _)); refine blk_far ?_ NB102_106.out _; (with_reducible repeat (first | refine blk_drewN ?_ _ | refine blk_drew ?_ | refine blk_alloc ?_ _)); refine blk_far ?_ NB102_106.out _; (with_reducible repeat (first | refine blk_drewN ?_ _ | refine blk_drew ?_ | refine blk_alloc ?_ _)); exact BK102.out⟩
       have n2_ : Aside0 (w60.heap[gb106]? = some (.cells #[.int .u64 a0_0, .int .u64 a0_1, .int .u64 a0_2, .slice A0_3 l0_3.length c0_3, .slice none 0 0] 40 (0, 0))) := ⟨by subst hW_; (with_reducible repeat (first | refine blk_drewN ?_ _ | refine blk_drew ?_ | refine blk_alloc ?_ _)); refine blk_put (cs := #[.int .u64 a0_0, .int .u64 a0_1, .int .u64 a0_2, .slice A0_3 l0_3.length c0_3, .slice A0_4 l0_4.length c0_4]) ?_ 4 _ rfl; (with_reducible repeat (first | refine blk_drewN ?_ _ | refine blk_drew ?_ | refine blk_alloc ?_ _)); refine blk_put (cs := #[.int .u64 a0_0, .int .u64 a0_1, .int .u64 a0_2, .slice A0_3 l0_3.length c0_3, .slice none 0 0]) ?_ 4 _ rfl; (with_reducible repeat (first | refine blk_drewN ?_ _ | refine blk_drew ?_ | refine blk_alloc ?_ _)); refine blk_put (cs := #[.int .u64 a0_0, .int .u64 a0_1, .int .u64 a0_2, .slice none 0 0, .slice none 0 0]) ?_ 3 _ rfl; (with_reducible repeat (first | refine blk_drewN ?_ _ | refine blk_drew ?_ | refine blk_alloc ?_ _)); refine blk_put (cs := #[.int .u64 a0_0, .int .u64 a0_1, .int .u64 0, .slice none 0 0, .slice none 0 0]) ?_ 2 _ rfl; (with_reducible repeat (first | refine blk_drewN ?_ _ | refine blk_drew ?_ | refine blk_alloc ?_ _)); refine blk_put (cs := #[.int .u64 a0_0, .int .u64 0, .int .u64 0, .slice none 0 0, .slice none 0 0]) ?_ 1 _ rfl; (with_reducible repeat (first | refine blk_drewN ?_ _ | refine blk_drew ?_ | refine blk_alloc ?_ _)); refine blk_put (cs := #[.int .u64 0, .int .u64 0, .int .u64 0, .slice none 0 0, .slice none 0 0]) ?_ 0 _ rfl; (with_reducible repeat (first | refine blk_drewN ?_ _ | refine blk_drew ?_ | refine blk_alloc ?_ _)); exact BK106.out⟩
       have n3_ : Aside0 (Below w.heap.size w w60) := ⟨by subst hW_; exact bB⟩
       (try clear BK101)
       (try clear BK102)
       (try clear BK106)
       (try clear HB)
       clear hW_
       have BK101 := n0_
       have BK102 := n1_
       have BK106 := n2_
       have HB := n3_
       clear n0_ n1_ n2_ n3_
       replace BK101 := Aside0.mk (blk_drew BK101.out)
       replace BK102 := Aside0.mk (blk_drew BK102.out)
       replace BK106 := Aside0.mk (blk_drew BK106.out)
       replace HB := Aside0.mk (below_drew1 HB.out)
       refine start_ (n := 31) (S := fun w' => w'.cell? ⟨gb101, 0, none⟩ = some (.int .u64 a0_0) ∧ w'.cell? ⟨gb101, 1, none⟩ = some (.int .u64 a0_1) ∧ w'.cell? ⟨gb101, 2, none⟩ = some (.int .u64 a0_2) ∧ w'.cell? ⟨gb101, 3, none⟩ = some (.slice A0_3 l0_3.length c0_3) ∧ w'.cell? ⟨gb101, 4, none⟩ = some (.slice A0_4 l0_4.length c0_4) ∧ w'.cell? ⟨gb102, 0, none⟩ = some (.int .u64 a1_0) ∧ w'.cell? ⟨gb102, 1, none⟩ = some (.int .u64 a1_1) ∧ w'.cell? ⟨gb102, 2, none⟩ = some (.int .u64 a1_2) ∧ w'.cell? ⟨gb102, 3, none⟩ = some (.slice A1_3 l1_3.length c1_3) ∧ w'.cell? ⟨gb102, 4, none⟩ = some (.slice A1_4 l1_4.length c1_4) ∧ w'.cell? ⟨gb106, 0, none⟩ = some (.int .u64 a0_0) ∧ w'.cell? ⟨gb106, 1, none⟩ = some (.int .u64 a0_1) ∧ w'.cell? ⟨gb106, 2, none⟩ = some (.int .u64 a0_2) ∧ w'.cell? ⟨gb106, 3, none⟩ = some (.slice A0_3 l0_3.length c0_3) ∧ w'.cell? ⟨gb106, 4, none⟩ = some (.slice none 0 0)) (ds := []) #[false, false, false, false, false, false, false, false, false, false, false, false, false, false, false, false, false, false, false, false, false, false, false, false, false, false, false, false, false, false, false] (by kernel_rfl) rfl rfl ⟨(blk_cell BK101.out 0).trans rfl, (blk_cell BK101.out 1).trans rfl, (blk_cell BK101.out 2).trans rfl, (blk_cell BK101.out 3).trans rfl, (blk_cell BK101.out 4).trans rfl, (blk_cell BK102.out 0).trans rfl, (blk_cell BK102.out 1).trans rfl, (blk_cell BK102.out 2).trans rfl, (blk_cell BK102.out 3).trans rfl, (blk_cell BK102.out 4).trans rfl, (blk_cell BK106.out 0).trans rfl, (blk_cell BK106.out 1).trans rfl, (blk_cell BK106.out 2).trans rfl, (blk_cell BK106.out 3).trans rfl, (blk_cell BK106.out 4).trans rfl⟩ (fun hHeld => ?_); refine with_tabW ferrulelaw04_PrecBuilds.tab7 ferrulelaw04_PrecBuilds.bits7 (fun HT_ HW_ => ?_)
       generalize w60.drew = w61 at BK101 BK102 BK106 HB hHeld ⊢
       refine tV 0 18 rfl rfl ?_
       refine tV 1 19 rfl rfl ?_
       refine tV 3 21 rfl rfl ?_
       refine tV 4 22 rfl rfl ?_
       refine one_ (i := 2) (N := some 20) #[true, true, true, true, true, false, false, false, false, false, false, false, false, false, false, false, false, false, false, false, false, false, false, false, false, false, false, false, false, false, false] rfl rfl (one_of HT_.out (by kernel_rfl)) (by decide) (fun K hK => ?_)
       refine goes_ Tryd.func31 (by kernel_rfl) rfl #[.agg #[.int .u64 a0_0, .int .u64 a0_1, .int .u64 a0_2, .slice A0_3 l0_3.length c0_3, .slice A0_4 l0_4.length c0_4], .agg #[.int .u64 a1_0, .int .u64 a1_1, .int .u64 a1_2, .slice A1_3 l1_3.length c1_3, .slice A1_4 l1_4.length c1_4]] (by rfl) rfl rfl bM ?_
       with_reducible refine (prec_Compare.calls kj4 a0_0 a0_1 a0_2 _ _ l0_3 _ _ l0_4 a1_0 a1_1 a1_2 _ _ l1_3 _ _ l1_4 t107 _ ?side1 ?side2 ?side3 ?side4 ?side5 ?side6 ?side7 ?side8 A21.out).mono ?_
       (case side1 => exact sW (Kd.C_below HR0_3.out HB.out))
       (case side2 => exact HC0_3.out)
       (case side3 => exact sW (Kd.C_below HR0_4.out HB.out))
       (case side4 => exact HC0_4.out)
       (case side5 => exact sW (Kd.C_below HR1_3.out HB.out))
       (case side6 => exact HC1_3.out)
       (case side7 => exact sW (Kd.C_below HR1_4.out HB.out))
       (case side8 => exact HC1_4.out)
       rintro e w62 ⟨rfl, hb⟩
       refine ⟨_, rfl, ?_⟩
       replace BK101 := aK BK101 hb
       replace BK102 := aK BK102 hb
       replace BK106 := aK BK106 hb
       replace HB := aB HB hb
       (try clear hb)
       (try clear hb2)
       (try clear hk)
       (try clear hi)
       refine hK.out _ _ ⟨(blk_cell BK101.out 0).trans rfl, (blk_cell BK101.out 1).trans rfl, (blk_cell BK101.out 2).trans rfl, (blk_cell BK101.out 3).trans rfl, (blk_cell BK101.out 4).trans rfl, (blk_cell BK102.out 0).trans rfl, (blk_cell BK102.out 1).trans rfl, (blk_cell BK102.out 2).trans rfl, (blk_cell BK102.out 3).trans rfl, (blk_cell BK102.out 4).trans rfl, (blk_cell BK106.out 0).trans rfl, (blk_cell BK106.out 1).trans rfl, (blk_cell BK106.out 2).trans rfl, (blk_cell BK106.out 3).trans rfl, (blk_cell BK106.out 4).trans rfl⟩ (fun hHeld => ?_)
       clear hK K
       refine norm_ (a' := ?_) ?_ ?_
       rotate_left
       ·show Act.put _ (some 20) _ = _
        simp only [Act.put, List.setIfInBounds_toArray, List.set_cons_zero, List.set_cons_succ, i64_w, i32_w]
        rfl
       refine one_ (i := 5) (N := some 23) #[true, true, true, true, true, true, false, false, false, false, false, false, false, false, false, false, false, false, false, false, false, false, false, false, false, false, false, false, false, false, false] rfl rfl (one_of HT_.out (by kernel_rfl)) (by decide) (fun K hK => ?_)
       refine goes_ Tryd.func31 (by kernel_rfl) rfl #[.agg #[.int .u64 a0_0, .int .u64 a0_1, .int .u64 a0_2, .slice A0_3 l0_3.length c0_3, .slice none 0 0], .agg #[.int .u64 a1_0, .int .u64 a1_1, .int .u64 a1_2, .slice A1_3 l1_3.length c1_3, .slice A1_4 l1_4.length c1_4]] (by rfl) rfl rfl bM ?_
       refine (prec_Compare.calls kj4 a0_0 a0_1 a0_2 _ _ l0_3 _ _ ([] : List ByteArray) a1_0 a1_1 a1_2 _ _ l1_3 _ _ l1_4 t108 _ ?side1 ?side2 ?side3 ?side4 ?side5 ?side6 ?side7 ?side8 A22.out).mono ?_
       (case side1 => exact sW (Kd.C_below HR0_3.out HB.out))
       (case side2 => exact HC0_3.out)
       (case side3 => exact Kd.C_nil _ _)
       (case side4 => exact Nat.le_refl _)
       (case side5 => exact sW (Kd.C_below HR1_3.out HB.out))
       (case side6 => exact HC1_3.out)
       (case side7 => exact sW (Kd.C_below HR1_4.out HB.out))
       (case side8 => exact HC1_4.out)
       rintro e w63 ⟨rfl, hb⟩
       refine ⟨_, rfl, ?_⟩
       replace BK101 := aK BK101 hb
       replace BK102 := aK BK102 hb
       replace BK106 := aK BK106 hb
       replace HB := aB HB hb
       (try clear hb)
       (try clear hb2)
       (try clear hk)
       (try clear hi)
       refine hK.out _ _ ⟨(blk_cell BK101.out 0).trans rfl, (blk_cell BK101.out 1).trans rfl, (blk_cell BK101.out 2).trans rfl, (blk_cell BK101.out 3).trans rfl, (blk_cell BK101.out 4).trans rfl, (blk_cell BK102.out 0).trans rfl, (blk_cell BK102.out 1).trans rfl, (blk_cell BK102.out 2).trans rfl, (blk_cell BK102.out 3).trans rfl, (blk_cell BK102.out 4).trans rfl, (blk_cell BK106.out 0).trans rfl, (blk_cell BK106.out 1).trans rfl, (blk_cell BK106.out 2).trans rfl, (blk_cell BK106.out 3).trans rfl, (blk_cell BK106.out 4).trans rfl⟩ (fun hHeld => ?_)
       clear hK K
       refine norm_ (a' := ?_) ?_ ?_
       rotate_left
       ·show Act.put _ (some 23) _ = _
        simp only [Act.put, List.setIfInBounds_toArray, List.set_cons_zero, List.set_cons_succ, i64_w, i32_w]
        rfl
       refine pV 6 24 rfl rfl ?_
       refine pV 7 25 rfl rfl ?_
       refine tV 8 26 rfl rfl ?_
       refine tV 9 27 rfl rfl ?_
       refine one_ (i := 10) (N := some 28) #[true, true, true, true, true, true, true, true, true, true, true, false, false, false, false, false, false, false, false, false, false, false, false, false, false, false, false, false, false, false, false] rfl rfl (one_of HT_.out (by kernel_rfl)) (by decide) (fun K hK => ?_)
       refine goes_ Tryd.func31 (by kernel_rfl) rfl #[.agg #[.int .u64 a0_0, .int .u64 a0_1, .int .u64 a0_2, .slice A0_3 l0_3.length c0_3, .slice A0_4 l0_4.length c0_4], .agg #[.int .u64 a0_0, .int .u64 a0_1, .int .u64 a0_2, .slice A0_3 l0_3.length c0_3, .slice none 0 0]] (by rfl) rfl rfl bM ?_
       refine (prec_Compare.calls kj4 a0_0 a0_1 a0_2 _ _ l0_3 _ _ l0_4 a0_0 a0_1 a0_2 _ _ l0_3 _ _ ([] : List ByteArray) t109 _ ?side1 ?side2 ?side3 ?side4 ?side5 ?side6 ?side7 ?side8 A24.out).mono ?_
       (case side1 => exact sW (Kd.C_below HR0_3.out HB.out))
       (case side2 => exact HC0_3.out)
       (case side3 => exact sW (Kd.C_below HR0_4.out HB.out))
       (case side4 => exact HC0_4.out)
       (case side5 => exact sW (Kd.C_below HR0_3.out HB.out))
       (case side6 => exact HC0_3.out)
       (case side7 => exact Kd.C_nil _ _)
       (case side8 => exact Nat.le_refl _)
       rintro e w64 ⟨rfl, hb⟩
       refine ⟨_, rfl, ?_⟩
       replace BK101 := aK BK101 hb
       replace BK102 := aK BK102 hb
       replace BK106 := aK BK106 hb
       replace HB := aB HB hb
       (try clear hb)
       (try clear hb2)
       (try clear hk)
       (try clear hi)
       refine hK.out _ _ ⟨(blk_cell BK101.out 0).trans rfl, (blk_cell BK101.out 1).trans rfl, (blk_cell BK101.out 2).trans rfl, (blk_cell BK101.out 3).trans rfl, (blk_cell BK101.out 4).trans rfl, (blk_cell BK102.out 0).trans rfl, (blk_cell BK102.out 1).trans rfl, (blk_cell BK102.out 2).trans rfl, (blk_cell BK102.out 3).trans rfl, (blk_cell BK102.out 4).trans rfl, (blk_cell BK106.out 0).trans rfl, (blk_cell BK106.out 1).trans rfl, (blk_cell BK106.out 2).trans rfl, (blk_cell BK106.out 3).trans rfl, (blk_cell BK106.out 4).trans rfl⟩ (fun hHeld => ?_)
       clear hK K
       refine norm_ (a' := ?_) ?_ ?_
       rotate_left
       ·show Act.put _ (some 28) _ = _
        simp only [Act.put, List.setIfInBounds_toArray, List.set_cons_zero, List.set_cons_succ, i64_w, i32_w]
        rfl
       refine pV 11 29 rfl rfl ?_
       refine pV 12 30 rfl rfl ?_
       refine pV 13 31 rfl rfl ?_
       refine pU 14 32 rfl rfl ?_
       refine pU 15 33 rfl rfl ?_
       refine pU 16 34 rfl rfl ?_
       refine pU 17 35 rfl rfl ?_
       refine pV 18 36 rfl rfl ?_
       refine pV 19 37 rfl rfl ?_
       refine pU 20 38 rfl rfl ?_
       refine pU 21 39 rfl rfl ?_
       refine pU 22 40 rfl rfl ?_
       refine pU 23 41 rfl rfl ?_
       refine pU 24 42 rfl rfl ?_
       refine pU 25 43 rfl rfl ?_
       refine pU 26 44 rfl rfl ?_
       refine pU 27 45 rfl rfl ?_
       refine pU 28 46 rfl rfl ?_
       refine pV 29 47 rfl rfl ?_
       refine pV 30 4 rfl rfl ?_
       refine done_ (done_of HT_.out (by kernel_rfl)) ?_
       try go_wp2
       go_ret
       exact ⟨by first | rfl | (simp [errW_none, errW_some] <;> rfl) | (simp [*, errW_none, errW_some] <;> rfl), bB⟩
     ·rw [if_neg c23] at H
      have c23b0 : (t107 == t108) = false := beq_eq_false_iff_ne.mpr c23
      have c23b1 : (t107 != t108) = true := bne_iff_ne.mpr c23
      obtain rfl := Option.some.inj H
      have hnb65 := NB101_102.out
      have hnc65 := NB102_101.out
      have hcz66_0 : wc.cell? ⟨gb101, 0, none⟩ = some (.int .u64 a0_0) := (blk_cell BK101.out 0).trans rfl
      have hcz66_1 : wc.cell? ⟨gb101, 1, none⟩ = some (.int .u64 a0_1) := (blk_cell BK101.out 1).trans rfl
      have hcz66_2 : wc.cell? ⟨gb101, 2, none⟩ = some (.int .u64 a0_2) := (blk_cell BK101.out 2).trans rfl
      have hcz66_3 : wc.cell? ⟨gb101, 3, none⟩ = some (.slice A0_3 l0_3.length c0_3) := (blk_cell BK101.out 3).trans rfl
      have hcz66_4 : wc.cell? ⟨gb101, 4, none⟩ = some (.slice A0_4 l0_4.length c0_4) := (blk_cell BK101.out 4).trans rfl
      have hfz66_0 := blk_frozen BK101.out 0
      have hfz66_1 := blk_frozen BK101.out 1
      have hfz66_2 := blk_frozen BK101.out 2
      have hfz66_3 := blk_frozen BK101.out 3
      have hfz66_4 := blk_frozen BK101.out 4
      try go_wp2_with (first | ((with_reducible refine gate_dst (N := 5) rfl ?_); (try (refine gate_guard (by rfl) ?_; dsimp only)); refine box_event ?hg (N := 5) ?hd (cs := #[.int .u64 0, .int .u64 0, .int .u64 0, .slice none 0 0, .slice none 0 0]) (t := 40) ?hr ?_; (case hd => rfl); (case hg => rfl); (case hr => first | (go_simp; done) | (go_simp; rfl)); intro gb106 hg w67 hbox hb; have BK106 := Aside0.mk hbox; have GW106 := Aside0.mk ((by rw [hg]; exact (below_size bB) : w.heap.size ≤ gb106)); have GE106 := Aside0.mk ((by rw [hg]; exact (below_size bB) : w.heap.size ≤ gb106)); replace HB := aB HB hb; have NB101_106 := Aside0.mk ((by rw [hg]; exact Nat.ne_of_lt (blk_lt (g := gb101) (o := .cells #[.int .u64 a0_0, .int .u64 a0_1, .int .u64 a0_2, .slice A0_3 l0_3.length c0_3, .slice A0_4 l0_4.length c0_4] 40 (0, 0)) (aKw BK101)) : gb101 ≠ gb106)); have NB106_101 := Aside0.mk ((by rw [hg]; exact Nat.ne_of_gt (blk_lt (g := gb101) (o := .cells #[.int .u64 a0_0, .int .u64 a0_1, .int .u64 a0_2, .slice A0_3 l0_3.length c0_3, .slice A0_4 l0_4.length c0_4] 40 (0, 0)) (aKw BK101)) : gb106 ≠ gb101)); replace BK101 := aK BK101 hb; have NB102_106 := Aside0.mk ((by rw [hg]; exact Nat.ne_of_lt (blk_lt (g := gb102) (o := .cells #[.int .u64 a1_0, .int .u64 a1_1, .int .u64 a1_2, .slice A1_3 l1_3.length c1_3, .slice A1_4 l1_4.length c1_4] 40 (0, 0)) (aKw BK102)) : gb102 ≠ gb106)); have NB106_102 := Aside0.mk ((by rw [hg]; exact Nat.ne_of_gt (blk_lt (g := gb102) (o := .cells #[.int .u64 a1_0, .int .u64 a1_1, .int .u64 a1_2, .slice A1_3 l1_3.length c1_3, .slice A1_4 l1_4.length c1_4] 40 (0, 0)) (aKw BK102)) : gb106 ≠ gb102)); replace BK102 := aK BK102 hb; clear hb hbox hg; have hnb68 := NB106_101.out; have hnc68 := NB101_106.out; have hnb69 := NB106_102.out; have hnc69 := NB102_106.out; have hcz70_0 : w67.cell? ⟨gb106, 0, none⟩ = some (.int .u64 0) := (blk_cell BK106.out 0).trans rfl; have hcz70_1 : w67.cell? ⟨gb106, 1, none⟩ = some (.int .u64 0) := (blk_cell BK106.out 1).trans rfl; have hcz70_2 : w67.cell? ⟨gb106, 2, none⟩ = some (.int .u64 0) := (blk_cell BK106.out 2).trans rfl; have hcz70_3 : w67.cell? ⟨gb106, 3, none⟩ = some (.slice none 0 0) := (blk_cell BK106.out 3).trans rfl; have hcz70_4 : w67.cell? ⟨gb106, 4, none⟩ = some (.slice none 0 0) := (blk_cell BK106.out 4).trans rfl; have hfz70_0 := blk_frozen BK106.out 0; have hfz70_1 := blk_frozen BK106.out 1; have hfz70_2 := blk_frozen BK106.out 2; have hfz70_3 := blk_frozen BK106.out 3; have hfz70_4 := blk_frozen BK106.out 4))
      generalize hW_ : ((((((w67.setCell ⟨gb106, 0, none⟩ (.int .u64 a0_0)).setCell ⟨gb106, 1, none⟩ (.int .u64 a0_1)).setCell ⟨gb106, 2, none⟩ (.int .u64 a0_2)).setCell ⟨gb106, 3, none⟩ (.slice A0_3 l0_3.length c0_3)).setCell ⟨gb106, 4, none⟩ (.slice A0_4 l0_4.length c0_4)).setCell ⟨gb106, 4, none⟩ (.slice none 0 0)) = w71
      have n0_ : Aside0 (w71.heap[gb101]? = some (.cells #[.int .u64 a0_0, .int .u64 a0_1, .int .u64 a0_2, .slice A0_3 l0_3.length c0_3, .slice A0_4 l0_4.length c0_4] 40 (0, 0))) := ⟨by subst hW_; (with_reducible repeat (first | refine blk_drewN ?_ _ | refine blk_drew ?_ | refine blk_alloc ?_ _)); refine blk_far ?_ NB101_106.out _; (with_reducible repeat (first | refine blk_drewN ?_ _ | refine blk_drew ?_ | refine blk_alloc ?_ _)); refine blk_far ?_ NB101_106.out _; (with_reducible repeat (first | refine blk_drewN ?_ _ | refine blk_drew ?_ | refine blk_alloc ?_ _)); refine blk_far ?_ NB101_106.out _; (with_reducible repeat (first | refine blk_drewN ?_ _ | refine blk_drew ?_ | refine blk_alloc ?_ _)); refine blk_far ?_ NB101_106.out _; (with_reducible repeat (first | refine blk_drewN ?_ _ | refine blk_drew ?_ | refine blk_alloc ?_ _)); refine blk_far ?_ NB101_106.out _; (with_reducible repeat (first | refine blk_drewN ?_ _ | refine blk_drew ?_ | refine blk_alloc ?_ _)); refine blk_far ?_ NB101_106.out _; (with_reducible repeat (first | refine blk_drewN ?_ _ | refine blk_drew ?_ | refine blk_alloc ?_ _)); exact BK101.out⟩
      have n1_ : Aside0 (w71.heap[gb102]? = some (.cells #[.int .u64 a1_0, .int .u64 a1_1, .int .u64 a1_2, .slice A1_3 l1_3.length c1_3, .slice A1_4 l1_4.length c1_4] 40 (0, 0))) := ⟨by subst hW_; (with_reducible repeat (first | refine blk_drewN ?_ _ | refine blk_drew ?_ | refine blk_alloc ?_ _)); refine blk_far ?_ NB102_106.out _; (with_reducible repeat (first | refine blk_drewN ?_ _ | refine blk_drew ?_ | refine blk_alloc ?_ _)); refine blk_far ?_ NB102_106.out _; (with_reducible repeat (first | refine blk_drewN ?_ _ | refine blk_drew ?_ | refine blk_alloc ?_ _)); refine blk_far ?_ NB102_106.out _; (with_reducible repeat (first | refine blk_drewN ?_ _ | refine blk_drew ?_ | refine blk_alloc ?_ _)); refine blk_far ?_ NB102_106.out _; (with_reducible repeat (first | refine blk_drewN ?_ _ | refine blk_drew ?_ | refine blk_alloc ?_ _)); refine blk_far ?_ NB102_106.out _; (with_reducible repeat (first | refine blk_drewN ?_ _ | refine blk_drew ?_ | refine blk_alloc ?_ _)); refine blk_far ?_ NB102_106.out _; (with_reducible repeat (first | refine blk_drewN ?_ _ | refine blk_drew ?_ | refine blk_alloc ?_ _)); exact BK102.out⟩
      have n2_ : Aside0 (w71.heap[gb106]? = some (.cells #[.int .u64 a0_0, .int .u64 a0_1, .int .u64 a0_2, .slice A0_3 l0_3.length c0_3, .slice none 0 0] 40 (0, 0))) := ⟨by subst hW_; (with_reducible repeat (first | refine blk_drewN ?_ _ | refine blk_drew ?_ | refine blk_alloc ?_ _)); refine blk_put (cs := #[.int .u64 a0_0, .int .u64 a0_1, .int .u64 a0_2, .slice A0_3 l0_3.length c0_3, .slice A0_4 l0_4.length c0_4]) ?_ 4 _ rfl; (with_reducible repeat (first | refine blk_drewN ?_ _ | refine blk_drew ?_ | refine blk_alloc ?_ _)); refine blk_put (cs := #[.int .u64 a0_0, .int .u64 a0_1, .int .u64 a0_2, .slice A0_3 l0_3.length c0_3, .slice none 0 0]) ?_ 4 _ rfl; (with_reducible repeat (first | refine blk_drewN ?_ _ | refine blk_drew ?_ | refine blk_alloc ?_ _)); refine blk_put (cs := #[.int .u64 a0_0, .int .u64 a0_1, .int .u64 a0_2, .slice none 0 0, .slice none 0 0]) ?_ 3 _ rfl; (with_reducible repeat (first | refine blk_drewN ?_ _ | refine blk_drew ?_ | refine blk_alloc ?_ _)); refine blk_put (cs := #[.int .u64 a0_0, .int .u64 a0_1, .int .u64 0, .slice none 0 0, .slice none 0 0]) ?_ 2 _ rfl; (with_reducible repeat (first | refine blk_drewN ?_ _ | refine blk_drew ?_ | refine blk_alloc ?_ _)); refine blk_put (cs := #[.int .u64 a0_0, .int .u64 0, .int .u64 0, .slice none 0 0, .slice none 0 0]) ?_ 1 _ rfl; (with_reducible repeat (first | refine blk_drewN ?_ _ | refine blk_drew ?_ | refine blk_alloc ?_ _)); refine blk_put (cs := #[.int .u64 0, .int .u64 0, .int .u64 0, .slice none 0 0, .slice none 0 0]) ?_ 0 _ rfl; (with_reducible repeat (first | refine blk_drewN ?_ _ | refine blk_drew ?_ | refine blk_alloc ?_ _)); exact BK106.out⟩
      have n3_ : Aside0 (Below w.heap.size w w71) := ⟨by subst hW_; exact bB⟩
      (try clear BK101)
      (try clear BK102)
      (try clear BK106)
      (try clear HB)
      clear hW_
      have BK101 := n0_
      have BK102 := n1_
      have BK106 := n2_
      have HB := n3_
      clear n0_ n1_ n2_ n3_
      replace BK101 := Aside0.mk (blk_drew BK101.out)
      replace BK102 := Aside0.mk (blk_drew BK102.out)
      replace BK106 := Aside0.mk (blk_drew BK106.out)
      replace HB := Aside0.mk (below_drew1 HB.out)
      refine start_ (n := 31) (S := fun w' => w'.cell? ⟨gb101, 0, none⟩ = some (.int .u64 a0_0) ∧ w'.cell? ⟨gb101, 1, none⟩ = some (.int .u64 a0_1) ∧ w'.cell? ⟨gb101, 2, none⟩ = some (.int .u64 a0_2) ∧ w'.cell? ⟨gb101, 3, none⟩ = some (.slice A0_3 l0_3.length c0_3) ∧ w'.cell? ⟨gb101, 4, none⟩ = some (.slice A0_4 l0_4.length c0_4) ∧ w'.cell? ⟨gb102, 0, none⟩ = some (.int .u64 a1_0) ∧ w'.cell? ⟨gb102, 1, none⟩ = some (.int .u64 a1_1) ∧ w'.cell? ⟨gb102, 2, none⟩ = some (.int .u64 a1_2) ∧ w'.cell? ⟨gb102, 3, none⟩ = some (.slice A1_3 l1_3.length c1_3) ∧ w'.cell? ⟨gb102, 4, none⟩ = some (.slice A1_4 l1_4.length c1_4) ∧ w'.cell? ⟨gb106, 0, none⟩ = some (.int .u64 a0_0) ∧ w'.cell? ⟨gb106, 1, none⟩ = some (.int .u64 a0_1) ∧ w'.cell? ⟨gb106, 2, none⟩ = some (.int .u64 a0_2) ∧ w'.cell? ⟨gb106, 3, none⟩ = some (.slice A0_3 l0_3.length c0_3) ∧ w'.cell? ⟨gb106, 4, none⟩ = some (.slice none 0 0)) (ds := []) #[false, false, false, false, false, false, false, false, false, false, false, false, false, false, false, false, false, false, false, false, false, false, false, false, false, false, false, false, false, false, false] (by kernel_rfl) rfl rfl ⟨(blk_cell BK101.out 0).trans rfl, (blk_cell BK101.out 1).trans rfl, (blk_cell BK101.out 2).trans rfl, (blk_cell BK101.out 3).trans rfl, (blk_cell BK101.out 4).trans rfl, (blk_cell BK102.out 0).trans rfl, (blk_cell BK102.out 1).trans rfl, (blk_cell BK102.out 2).trans rfl, (blk_cell BK102.out 3).trans rfl, (blk_cell BK102.out 4).trans rfl, (blk_cell BK106.out 0).trans rfl, (blk_cell BK106.out 1).trans rfl, (blk_cell BK106.out 2).trans rfl, (blk_cell BK106.out 3).trans rfl, (blk_cell BK106.out 4).trans rfl⟩ (fun hHeld => ?_); refine with_tabW ferrulelaw04_PrecBuilds.tab7 ferrulelaw04_PrecBuilds.bits7 (fun HT_ HW_ => ?_)
      generalize w71.drew = w72 at BK101 BK102 BK106 HB hHeld ⊢
      refine tV 0 18 rfl rfl ?_
      refine tV 1 19 rfl rfl ?_
      refine tV 3 21 rfl rfl ?_
      refine tV 4 22 rfl rfl ?_
      refine one_ (i := 2) (N := some 20) #[true, true, true, true, true, false, false, false, false, false, false, false, false, false, false, false, false, false, false, false, false, false, false, false, false, false, false, false, false, false, false] rfl rfl (one_of HT_.out (by kernel_rfl)) (by decide) (fun K hK => ?_)
      refine goes_ Tryd.func31 (by kernel_rfl) rfl #[.agg #[.int .u64 a0_0, .int .u64 a0_1, .int .u64 a0_2, .slice A0_3 l0_3.length c0_3, .slice A0_4 l0_4.length c0_4], .agg #[.int .u64 a1_0, .int .u64 a1_1, .int .u64 a1_2, .slice A1_3 l1_3.length c1_3, .slice A1_4 l1_4.length c1_4]] (by rfl) rfl rfl bM ?_
      with_reducible refine (prec_Compare.calls kj4 a0_0 a0_1 a0_2 _ _ l0_3 _ _ l0_4 a1_0 a1_1 a1_2 _ _ l1_3 _ _ l1_4 t107 _ ?side1 ?side2 ?side3 ?side4 ?side5 ?side6 ?side7 ?side8 A21.out).mono ?_
      (case side1 => exact sW (Kd.C_below HR0_3.out HB.out))
      (case side2 => exact HC0_3.out)
      (case side3 => exact sW (Kd.C_below HR0_4.out HB.out))
      (case side4 => exact HC0_4.out)
      (case side5 => exact sW (Kd.C_below HR1_3.out HB.out))
      (case side6 => exact HC1_3.out)
      (case side7 => exact sW (Kd.C_below HR1_4.out HB.out))
      (case side8 => exact HC1_4.out)
      rintro e w73 ⟨rfl, hb⟩
      refine ⟨_, rfl, ?_⟩
      replace BK101 := aK BK101 hb
      replace BK102 := aK BK102 hb
      replace BK106 := aK BK106 hb
      replace HB := aB HB hb
      (try clear hb)
      (try clear hb2)
      (try clear hk)
      (try clear hi)
      refine hK.out _ _ ⟨(blk_cell BK101.out 0).trans rfl, (blk_cell BK101.out 1).trans rfl, (blk_cell BK101.out 2).trans rfl, (blk_cell BK101.out 3).trans rfl, (blk_cell BK101.out 4).trans rfl, (blk_cell BK102.out 0).trans rfl, (blk_cell BK102.out 1).trans rfl, (blk_cell BK102.out 2).trans rfl, (blk_cell BK102.out 3).trans rfl, (blk_cell BK102.out 4).trans rfl, (blk_cell BK106.out 0).trans rfl, (blk_cell BK106.out 1).trans rfl, (blk_cell BK106.out 2).trans rfl, (blk_cell BK106.out 3).trans rfl, (blk_cell BK106.out 4).trans rfl⟩ (fun hHeld => ?_)
      clear hK K
      refine norm_ (a' := ?_) ?_ ?_
      rotate_left
      ·show Act.put _ (some 20) _ = _
       simp only [Act.put, List.setIfInBounds_toArray, List.set_cons_zero, List.set_cons_succ, i64_w, i32_w]
       rfl
      refine one_ (i := 5) (N := some 23) #[true, true, true, true, true, true, false, false, false, false, false, false, false, false, false, false, false, false, false, false, false, false, false, false, false, false, false, false, false, false, false] rfl rfl (one_of HT_.out (by kernel_rfl)) (by decide) (fun K hK => ?_)
      refine goes_ Tryd.func31 (by kernel_rfl) rfl #[.agg #[.int .u64 a0_0, .int .u64 a0_1, .int .u64 a0_2, .slice A0_3 l0_3.length c0_3, .slice none 0 0], .agg #[.int .u64 a1_0, .int .u64 a1_1, .int .u64 a1_2, .slice A1_3 l1_3.length c1_3, .slice A1_4 l1_4.length c1_4]] (by rfl) rfl rfl bM ?_
      refine (prec_Compare.calls kj4 a0_0 a0_1 a0_2 _ _ l0_3 _ _ ([] : List ByteArray) a1_0 a1_1 a1_2 _ _ l1_3 _ _ l1_4 t108 _ ?side1 ?side2 ?side3 ?side4 ?side5 ?side6 ?side7 ?side8 A22.out).mono ?_
      (case side1 => exact sW (Kd.C_below HR0_3.out HB.out))
      (case side2 => exact HC0_3.out)
      (case side3 => exact Kd.C_nil _ _)
      (case side4 => exact Nat.le_refl _)
      (case side5 => exact sW (Kd.C_below HR1_3.out HB.out))
      (case side6 => exact HC1_3.out)
      (case side7 => exact sW (Kd.C_below HR1_4.out HB.out))
      (case side8 => exact HC1_4.out)
      rintro e w74 ⟨rfl, hb⟩
      refine ⟨_, rfl, ?_⟩
      replace BK101 := aK BK101 hb
      replace BK102 := aK BK102 hb
      replace BK106 := aK BK106 hb
      replace HB := aB HB hb
      (try clear hb)
      (try clear hb2)
      (try clear hk)
      (try clear hi)
      refine hK.out _ _ ⟨(blk_cell BK101.out 0).trans rfl, (blk_cell BK101.out 1).trans rfl, (blk_cell BK101.out 2).trans rfl, (blk_cell BK101.out 3).trans rfl, (blk_cell BK101.out 4).trans rfl, (blk_cell BK102.out 0).trans rfl, (blk_cell BK102.out 1).trans rfl, (blk_cell BK102.out 2).trans rfl, (blk_cell BK102.out 3).trans rfl, (blk_cell BK102.out 4).trans rfl, (blk_cell BK106.out 0).trans rfl, (blk_cell BK106.out 1).trans rfl, (blk_cell BK106.out 2).trans rfl, (blk_cell BK106.out 3).trans rfl, (blk_cell BK106.out 4).trans rfl⟩ (fun hHeld => ?_)
      clear hK K
      refine norm_ (a' := ?_) ?_ ?_
      rotate_left
      ·show Act.put _ (some 23) _ = _
       simp only [Act.put, List.setIfInBounds_toArray, List.set_cons_zero, List.set_cons_succ, i64_w, i32_w]
       rfl
      refine pV 6 24 rfl rfl ?_
      refine pV 7 25 rfl rfl ?_
      refine pU 8 26 rfl rfl ?_
      refine pU 9 27 rfl rfl ?_
      refine pU 10 28 rfl rfl ?_
      refine pU 11 29 rfl rfl ?_
      refine pV 12 30 rfl rfl ?_
      refine pV 13 31 rfl rfl ?_
      refine pU 14 32 rfl rfl ?_
      refine pU 15 33 rfl rfl ?_
      refine pU 16 34 rfl rfl ?_
      refine pU 17 35 rfl rfl ?_
      refine pV 18 36 rfl rfl ?_
      refine pV 19 37 rfl rfl ?_
      refine pU 20 38 rfl rfl ?_
      refine pU 21 39 rfl rfl ?_
      refine pU 22 40 rfl rfl ?_
      refine pU 23 41 rfl rfl ?_
      refine pU 24 42 rfl rfl ?_
      refine pU 25 43 rfl rfl ?_
      refine pU 26 44 rfl rfl ?_
      refine pU 27 45 rfl rfl ?_
      refine pU 28 46 rfl rfl ?_
      refine pV 29 47 rfl rfl ?_
      refine pV 30 4 rfl rfl ?_
      refine done_ (done_of HT_.out (by kernel_rfl)) ?_
      try go_wp2
      go_ret
      exact ⟨by first | rfl | (simp [errW_none, errW_some] <;> rfl) | (simp [*, errW_none, errW_some] <;> rfl), bB⟩
 ·replace c4 := Bool.eq_false_iff.mpr c4
  subst c4
  have H1 : (some false) = some r := by rw [if_neg (show ¬ (false = true) by decide)] at H; exact H
  clear H
  have H := H1
  clear H1
  obtain rfl := Option.some.inj H
  go_enter Tryd.func10, Tryd.ntmps10
  go_wp2_with (first | ((with_reducible refine gate_dst (N := 2) rfl ?_); (try (refine gate_guard (by rfl) ?_; dsimp only)); refine box_event ?hg (N := 2) ?hd (cs := #[.int .u64 a0_0, .int .u64 a0_1, .int .u64 a0_2, .slice A0_3 l0_3.length c0_3, .slice A0_4 l0_4.length c0_4]) (t := 40) ?hr ?_; (case hd => rfl); (case hg => rfl); (case hr => first | (go_simp; done) | (go_simp; rfl)); intro gb101 hg w75 hbox hb; have BK101 := Aside0.mk hbox; have GW101 := Aside0.mk ((by rw [hg]; exact (below_size bB) : w.heap.size ≤ gb101)); have GE101 := Aside0.mk ((by rw [hg]; exact (below_size bB) : w.heap.size ≤ gb101)); replace HB := aB HB hb; clear hb hbox hg) | ((with_reducible refine gate_dst (N := 3) rfl ?_); (try (refine gate_guard (by rfl) ?_; dsimp only)); refine box_event ?hg (N := 3) ?hd (cs := #[.int .u64 a1_0, .int .u64 a1_1, .int .u64 a1_2, .slice A1_3 l1_3.length c1_3, .slice A1_4 l1_4.length c1_4]) (t := 40) ?hr ?_; (case hd => rfl); (case hg => rfl); (case hr => first | (go_simp; done) | (go_simp; rfl)); intro gb102 hg w76 hbox hb; have BK102 := Aside0.mk hbox; have GW102 := Aside0.mk ((by rw [hg]; exact (below_size bB) : w.heap.size ≤ gb102)); have GE102 := Aside0.mk ((by rw [hg]; exact (below_size bB) : w.heap.size ≤ gb102)); replace HB := aB HB hb; have NB101_102 := Aside0.mk ((by rw [hg]; exact Nat.ne_of_lt (blk_lt (g := gb101) (o := .cells #[.int .u64 a0_0, .int .u64 a0_1, .int .u64 a0_2, .slice A0_3 l0_3.length c0_3, .slice A0_4 l0_4.length c0_4] 40 (0, 0)) (aKw BK101)) : gb101 ≠ gb102)); have NB102_101 := Aside0.mk ((by rw [hg]; exact Nat.ne_of_gt (blk_lt (g := gb101) (o := .cells #[.int .u64 a0_0, .int .u64 a0_1, .int .u64 a0_2, .slice A0_3 l0_3.length c0_3, .slice A0_4 l0_4.length c0_4] 40 (0, 0)) (aKw BK101)) : gb102 ≠ gb101)); replace BK101 := aK BK101 hb; clear hb hbox hg) | ((with_reducible refine gate_callee (f := 21) rfl ?_); refine goesL_ (some 6) rfl rfl Tryd.func21 (by kernel_rfl) rfl #[] rfl bM ?_; (with_reducible refine (ferrulelaw04_awake.calls k  false _ A3.out).mono ?_); rintro e w77 ⟨rfl, hb⟩; refine ⟨_, rfl, ?_⟩; replace BK101 := aK BK101 hb; replace BK102 := aK BK102 hb; replace HB := aB HB hb; (try clear hb); (try clear hb2); (try clear hk); (try clear hi)))
  go_ret
  exact ⟨by first | rfl | (simp [errW_none, errW_some] <;> rfl) | (simp [*, errW_none, errW_some] <;> rfl), bB⟩

def ferrulelaw04_PrecBuilds.Pure : Prop := ∀ (a0_0 : Int) (a0_1 : Int) (a0_2 : Int) (l0_3 : List ByteArray) (l0_4 : List ByteArray) (a1_0 : Int) (a1_1 : Int) (a1_2 : Int) (l1_3 : List ByteArray) (l1_4 : List ByteArray), (Lit.int .u64 a0_0).wf = true → (Lit.int .u64 a0_1).wf = true → (Lit.int .u64 a0_2).wf = true → (fun l : (List ByteArray) => l.length ≤ maxLen ∧ ∀ x ∈ l, (fun s : ByteArray => s.size ≤ maxLen) x) l0_3 → (fun l : (List ByteArray) => l.length ≤ maxLen ∧ ∀ x ∈ l, (fun s : ByteArray => s.size ≤ maxLen) x) l0_4 → (Lit.int .u64 a1_0).wf = true → (Lit.int .u64 a1_1).wf = true → (Lit.int .u64 a1_2).wf = true → (fun l : (List ByteArray) => l.length ≤ maxLen ∧ ∀ x ∈ l, (fun s : ByteArray => s.size ≤ maxLen) x) l1_3 → (fun l : (List ByteArray) => l.length ≤ maxLen ∧ ∀ x ∈ l, (fun s : ByteArray => s.size ≤ maxLen) x) l1_4 → ∃ k, ferrulelaw04_PrecBuilds.f k a0_0 a0_1 a0_2 l0_3 l0_4 a1_0 a1_1 a1_2 l1_3 l1_4 = some true

end Go.Proofs.YtildmfegfkiknaaDoor.X
