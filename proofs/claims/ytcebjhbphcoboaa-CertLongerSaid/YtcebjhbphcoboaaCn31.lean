-- Written by a program of this session (wip/xp), out of the translation. Not trusted: Lean checks it.
import Derived.Test.YtcebjhbphcoboaaC0
import Derived.Test.YtcebjhbphcoboaaCn69
-- shrunk
namespace Go.Proofs.Ytcebjhbphcoboaa.C
open Go.RowKit Go.Proofs.YtcebjhbphcoboaaW.PrintWords Go.Proofs.YtcebjhbphcoboaaW.PrintLast Go.Proofs.YtcebjhbphcoboaaW.PrintMore
attribute [local go_sem] Lab.str_gtr Lab.str_leq Lab.str_geq max2_int min2_int max_two min_two max_three min_three max_four min_four   -- for this text's walks alone
set_option linter.unusedVariables false
set_option linter.unusedSimpArgs false

/-! ### ferruleref23_Bytes: function 31 -/
mutual
def ferruleref23_Bytes.l0 : Nat → List Int → Int → List Int → List (S95) → Option (List Int)
 | 0, _, _, _, _ => none
 | k + 1, x3, x4, x102000, x102001 => if x4 < (x102000.length : Int) then (if 0 ≤ x4 then (if x4 > 0 then (if 0 ≤ (wrap64 (x4 - 1)) then (if (wrap64 (x4 - 1)) < (x102000.length : Int) then ((ferruleref23_Put.f k ((wrap64 ((rd x102000 x4) - (rd x102000 (wrap64 (x4 - 1))))) % 4294967296)).bind fun t113 => (if x3.length + t113.length < 140737488355328 then (ferruleref23_Bytes.l0 k (x3 ++ t113) (wrap64 (x4 + 1)) x102000 x102001) else (none))) else (none)) else (none)) else ((ferruleref23_Put.f k ((rd x102000 x4) % 4294967296)).bind fun t119 => (if x3.length + t119.length < 140737488355328 then (ferruleref23_Bytes.l0 k (x3 ++ t119) (wrap64 (x4 + 1)) x102000 x102001) else (none)))) else (none)) else ((ferruleref23_Put.f k (((x102001.length : Int)) % 4294967296)).bind fun t125 => (if x3.length + t125.length < 140737488355328 then (ferruleref23_Bytes.l1 k (x3 ++ t125) 0 x102000 x102001) else (none)))
def ferruleref23_Bytes.l1 : Nat → List Int → Int → List Int → List (S95) → Option (List Int)
 | 0, _, _, _, _ => none
 | k + 1, x3, x6, x102000, x102001 => if x6 < (x102001.length : Int) then (if 0 ≤ x6 then ((ferruleref23_Put.f k (((rd_T95 x102001 x6).f0) % 4294967296)).bind fun t133 => (if x3.length + t133.length < 140737488355328 then ((some (x3 ++ t133 : List Int)).bind fun y136 => ((ferruleref23_Put.f k (((((rd_T95 x102001 x6).f1).length : Int)) % 4294967296)).bind fun t139 => (if y136.length + t139.length < 140737488355328 then (ferruleref23_Bytes.l2 k (y136 ++ t139) x6 0 x102000 x102001 ((rd_T95 x102001 x6).f0) ((rd_T95 x102001 x6).f1)) else (none)))) else (none))) else (none)) else (some x3)
def ferruleref23_Bytes.l2 : Nat → List Int → Int → Int → List Int → List (S95) → Int → List Int → Option (List Int)
 | 0, _, _, _, _, _, _, _ => none
 | k + 1, x3, x6, x8, x102000, x102001, x133000, x133001 => if x8 < (x133001.length : Int) then (if 0 ≤ x8 then (if (wrap64 (2 * (rd x133001 x8))) < 0 then ((ferruleref23_Put.f k ((wrap64 (1 - (wrap64 (2 * (rd x133001 x8))))) % 4294967296)).bind fun t146 => (if x3.length + t146.length < 140737488355328 then (ferruleref23_Bytes.l2 k (x3 ++ t146) x6 (wrap64 (x8 + 1)) x102000 x102001 x133000 x133001) else (none))) else ((ferruleref23_Put.f k ((wrap64 (2 * (rd x133001 x8))) % 4294967296)).bind fun t152 => (if x3.length + t152.length < 140737488355328 then (ferruleref23_Bytes.l2 k (x3 ++ t152) x6 (wrap64 (x8 + 1)) x102000 x102001 x133000 x133001) else (none)))) else (none)) else (ferruleref23_Bytes.l1 k x3 (wrap64 (x6 + 1)) x102000 x102001)
end
def ferruleref23_Bytes.f (k : Nat) (l0_0 : List Int) (l0_1 : List (S95)) : Option (List Int) := (some (([70, 67] : List Int) : List Int)).bind fun y102 => ((ferruleref23_Put.f k (((l0_0.length : Int)) % 4294967296)).bind fun t105 => (if y102.length + t105.length < 140737488355328 then (ferruleref23_Bytes.l0 k (y102 ++ t105) 0 l0_0 l0_1) else (none)))
theorem ferruleref23_Bytes.mono_l : ∀ k, (∀ y0 y1 y2 y3, LeO (ferruleref23_Bytes.l0 k y0 y1 y2 y3) (ferruleref23_Bytes.l0 (k + 1) y0 y1 y2 y3)) ∧ (∀ y0 y1 y2 y3, LeO (ferruleref23_Bytes.l1 k y0 y1 y2 y3) (ferruleref23_Bytes.l1 (k + 1) y0 y1 y2 y3)) ∧ (∀ y0 y1 y2 y3 y4 y5 y6, LeO (ferruleref23_Bytes.l2 k y0 y1 y2 y3 y4 y5 y6) (ferruleref23_Bytes.l2 (k + 1) y0 y1 y2 y3 y4 y5 y6))
 | 0 => ⟨fun _ _ _ _ r h => by simp [ferruleref23_Bytes.l0] at h, fun _ _ _ _ r h => by simp [ferruleref23_Bytes.l1] at h, fun _ _ _ _ _ _ _ r h => by simp [ferruleref23_Bytes.l2] at h⟩
 | k + 1 => by
  obtain ⟨ih0, ih1, ih2⟩ := ferruleref23_Bytes.mono_l k
  refine ⟨?_, ?_, ?_⟩
  ·intro y0 y1 y2 y3
   unfold ferruleref23_Bytes.l0
   repeat' first
   | (with_reducible exact ih0 _ _ _ _)
   | (with_reducible exact ih1 _ _ _ _)
   | (with_reducible exact ih2 _ _ _ _ _ _ _)
   | (with_reducible exact ferruleref23_Put.mono _ _)
   | (with_reducible exact LeO.refl _)
   | (with_reducible exact LeO.none _)
   | (with_reducible refine LeO.ite ?_ ?_)
   | (with_reducible refine LeO.bind ?_ (fun _ => ?_))
   | exact ih0 _ _ _ _
   | exact ih1 _ _ _ _
   | exact ih2 _ _ _ _ _ _ _
   | exact ferruleref23_Put.mono _ _
   | exact LeO.none _
   | refine LeO.ite ?_ ?_
   | refine LeO.bind ?_ (fun _ => ?_)
  ·intro y0 y1 y2 y3
   unfold ferruleref23_Bytes.l1
   repeat' first
   | (with_reducible exact ih0 _ _ _ _)
   | (with_reducible exact ih1 _ _ _ _)
   | (with_reducible exact ih2 _ _ _ _ _ _ _)
   | (with_reducible exact ferruleref23_Put.mono _ _)
   | (with_reducible exact LeO.refl _)
   | (with_reducible exact LeO.none _)
   | (with_reducible refine LeO.ite ?_ ?_)
   | (with_reducible refine LeO.bind ?_ (fun _ => ?_))
   | exact ih0 _ _ _ _
   | exact ih1 _ _ _ _
   | exact ih2 _ _ _ _ _ _ _
   | exact ferruleref23_Put.mono _ _
   | exact LeO.none _
   | refine LeO.ite ?_ ?_
   | refine LeO.bind ?_ (fun _ => ?_)
  ·intro y0 y1 y2 y3 y4 y5 y6
   unfold ferruleref23_Bytes.l2
   repeat' first
   | (with_reducible exact ih0 _ _ _ _)
   | (with_reducible exact ih1 _ _ _ _)
   | (with_reducible exact ih2 _ _ _ _ _ _ _)
   | (with_reducible exact ferruleref23_Put.mono _ _)
   | (with_reducible exact LeO.refl _)
   | (with_reducible exact LeO.none _)
   | (with_reducible refine LeO.ite ?_ ?_)
   | (with_reducible refine LeO.bind ?_ (fun _ => ?_))
   | exact ih0 _ _ _ _
   | exact ih1 _ _ _ _
   | exact ih2 _ _ _ _ _ _ _
   | exact ferruleref23_Put.mono _ _
   | exact LeO.none _
   | refine LeO.ite ?_ ?_
   | refine LeO.bind ?_ (fun _ => ?_)
theorem ferruleref23_Bytes.mono : ∀ a0 a1 k, LeO (ferruleref23_Bytes.f k a0 a1) (ferruleref23_Bytes.f (k + 1) a0 a1) := by
 intro a0 a1 k
 obtain ⟨ih0, ih1, ih2⟩ := ferruleref23_Bytes.mono_l k
 unfold ferruleref23_Bytes.f
 repeat' first
   | (with_reducible exact ih0 _ _ _ _)
   | (with_reducible exact ih1 _ _ _ _)
   | (with_reducible exact ih2 _ _ _ _ _ _ _)
   | (with_reducible exact ferruleref23_Put.mono _ _)
   | (with_reducible exact LeO.refl _)
   | (with_reducible exact LeO.none _)
   | (with_reducible refine LeO.ite ?_ ?_)
   | (with_reducible refine LeO.bind ?_ (fun _ => ?_))
   | exact ih0 _ _ _ _
   | exact ih1 _ _ _ _
   | exact ih2 _ _ _ _ _ _ _
   | exact ferruleref23_Put.mono _ _
   | exact LeO.none _
   | refine LeO.ite ?_ ?_
   | refine LeO.bind ?_ (fun _ => ?_)
def ferruleref23_Bytes.T15 : Bool × List (List Nat × List Nat) := (true, [([], []), ([], []), ([1], [1]), ([2], [2]), ([3], [3]), ([0, 4, 4], [0, 4]), ([], []), ([6], [6]), ([7], [7]), ([8], [8]), ([9, 5], [9]), ([5, 10, 10], [5, 10]), ([11, 11, 0, 1, 2, 3, 4, 5, 6, 7, 8, 9, 10, 11], [0, 11])])
def ferruleref23_Bytes.B15 : List Nat := [0, 0, 2, 6, 14, 31, 0, 64, 192, 448, 1023, 2047, 4095]
theorem ferruleref23_Bytes.tab15 : rtab .any (opsOf Try.f31 15) = ferruleref23_Bytes.T15 := by kernel_rfl
theorem ferruleref23_Bytes.bits15 : waitsOk ferruleref23_Bytes.T15.2 ferruleref23_Bytes.B15 = true := by kernel_rfl
set_option maxHeartbeats 8000000 in
set_option maxRecDepth 100000 in
theorem ferruleref23_Bytes.calls (k : Nat) (A0_0 : Option Addr) (c0_0 : Nat) (l0_0 : List Int) (A0_1 : Option Addr) (c0_1 : Nat) (l0_1 : List (S95)) (r : List Int) (w : World) (hr0_0 : Kd.C (Kd.int .i64) w A0_0 l0_0.length l0_0) (hc0_0 : l0_0.length ≤ c0_0) (hr0_1 : Kd.C k95 w A0_1 l0_1.length l0_1) (hc0_1 : l0_1.length ≤ c0_1) (h : ferruleref23_Bytes.f k l0_0 l0_1 = some r) :
  Calls Try.prog 31 #[.agg #[.slice A0_0 l0_0.length c0_0, .slice A0_1 l0_1.length c0_1]] w fun e w' => ∃ v0_ : Value, e = .returned (v0_) ∧ Kd.R (Kd.int .u8) 5 w' w.heap.size (fun _ => True) v0_ r ∧ Below w.heap.size w w' := by
 have hu52 := Try.underlying52
 have hu95 := Try.underlying95
 have HR0_0 := Aside0.mk hr0_0
 have HC0_0 := Aside0.mk hc0_0
 clear hr0_0 hc0_0
 have HR0_1 := Aside0.mk hr0_1
 have HC0_1 := Aside0.mk hc0_1
 clear hr0_1 hc0_1
 have HB := Aside0.mk (Below.refl w.heap.size w)
 have H : ((some (([70, 67] : List Int) : List Int)).bind fun y102 => ((ferruleref23_Put.f k (((l0_0.length : Int)) % 4294967296)).bind fun t105 => (if y102.length + t105.length < 140737488355328 then (ferruleref23_Bytes.l0 k (y102 ++ t105) 0 l0_0 l0_1) else (none)))) = some r := h
 clear h
 obtain ⟨y102, hy102⟩ : ∃ y_ : List Int, y_ = (([70, 67] : List Int)) := ⟨_, rfl⟩
 replace H : ((ferruleref23_Put.f k (((l0_0.length : Int)) % 4294967296)).bind fun t105 => (if y102.length + t105.length < 140737488355328 then (ferruleref23_Bytes.l0 k (y102 ++ t105) 0 l0_0 l0_1) else (none))) = some r := by first | (rw [hy102]; with_reducible exact H) | (have H2_ := (Option.bind_some _ _).symm.trans H; rw [hy102]; with_reducible exact H2_) | (have H2_ := (Option.bind_some _ _).symm.trans H; with_reducible exact H2_) | with_reducible exact H | (rw [hy102]; exact H) | exact H
 have Ny102 := Aside0.mk hy102
 clear hy102
 replace H := Option.bind_eq_some_iff.mp H
 obtain ⟨t105, A20, H⟩ := H
 replace H : (if y102.length + t105.length < 140737488355328 then (ferruleref23_Bytes.l0 k (y102 ++ t105) 0 l0_0 l0_1) else (none)) = some r := H
 have A2 := Aside0.mk A20
 clear A20
 by_cases c3 : y102.length + t105.length < 140737488355328
 ·rw [if_pos c3] at H
  have LMc3 := Aside0.mk c3
  clear c3
  obtain ⟨y108, hy108⟩ : ∃ y_ : List Int, y_ = (y102 ++ t105) := ⟨_, rfl⟩
  replace H : (ferruleref23_Bytes.l0 k y108 0 l0_0 l0_1) = some r := by first | (rw [hy108]; with_reducible exact H) | (have H2_ := (Option.bind_some _ _).symm.trans H; rw [hy108]; with_reducible exact H2_) | (have H2_ := (Option.bind_some _ _).symm.trans H; with_reducible exact H2_) | with_reducible exact H | (rw [hy108]; exact H) | exact H
  have Ny108 := Aside0.mk hy108
  clear hy108
  have H' := Aside0.mk H
  clear H
  go_enter Try.func31, Try.ntmps31
  go_wp2_with (first | ((with_reducible refine gate_dst (N := 1) rfl ?_); refine box_event ?hg (N := 1) ?hd (cs := #[.slice A0_0 l0_0.length c0_0, .slice A0_1 l0_1.length c0_1]) (t := 52) ?hr ?_; (case hd => rfl); (case hg => rfl); (case hr => first | (go_simp; done) | (go_simp; rfl)); intro gb101 hg w4 hbox hb; have BK101 := Aside0.mk hbox; have GW101 := Aside0.mk ((by rw [hg]; exact (below_size bB) : w.heap.size ≤ gb101)); have GE101 := Aside0.mk ((by rw [hg]; exact (below_size bB) : w.heap.size ≤ gb101)); replace HB := aB HB hb; clear hb hbox hg) | ((with_reducible refine gate_dst (N := 10) rfl ?_); refine Kd.R_lit (Kd.int .u8) _ 5 ?hg (N := 10) ?hd (xs := ([70, 67] : List Int)) (inner := [.int .u8 70, .int .u8 67]) (ok := fun _ => True) (okp := fun _ => True) ?hr ?hp (fun _ hk => hk) trivial (Below.refl _ _) (Nat.le_refl _) (by simp) ?_; (case hd => rfl); (case hg => rfl); (case hr => first | (go_simp; done) | (go_simp; rfl)); (case hp => exact (Reps.one (show Kd.M (Kd.int .u8) _ _ _ 70 [.int .u8 70] from rfl) (Reps.one (show Kd.M (Kd.int .u8) _ _ _ 67 [.int .u8 67] from rfl) (Reps.none _ _)))); intro v103 w5 ho6 hb hg_ hnew_; clear hg_ hnew_; (first | rw [← Ny102.out] at ho6 | (simp only [Int.reduceToNat] at ho6; rw [← Ny102.out] at ho6)); have HO104 := aL ho6 HB; replace BK101 := aK BK101 hb; replace HB := aB HB hb; clear hb ho6; have hcz7_0 : w5.cell? ⟨gb101, 0, none⟩ = some (.slice A0_0 l0_0.length c0_0) := (blk_cell BK101.out 0).trans rfl; have hcz7_1 : w5.cell? ⟨gb101, 1, none⟩ = some (.slice A0_1 l0_1.length c0_1) := (blk_cell BK101.out 1).trans rfl; have hfz7_0 := blk_frozen BK101.out 0; have hfz7_1 := blk_frozen BK101.out 1) | ((with_reducible refine gate_callee (f := 69) rfl ?_); refine goesL_ (some 16) rfl rfl Try.func69 (by kernel_rfl) rfl #[.int .u32 (((l0_0.length : Int)) % 4294967296)] rfl bM ?_; (with_reducible refine (ferruleref23_Put.calls k (((l0_0.length : Int)) % 4294967296) t105 _ A2.out).mono ?_); rintro e w8 ⟨v106, rfl, ho0, hb⟩; refine ⟨_, rfl, ?_⟩; have HO107 := aN ho0 HO104 HB; replace HO104 := aE HO104 ho0 hb; replace BK101 := aK BK101 hb; replace HB := aB HB hb; (try clear hb); (try clear hb2); (try clear hk); (try clear hi); (try clear ho0); obtain ⟨Ao10, co10, eo10⟩ := Kd.R_slice HO107.out; subst eo10) | ((with_reducible refine gate_builtin (b := .append) (xs := #[.tmp 11, .tmp 16]) rfl ?_); at_builtin; refine Kd.R_append_rows (Kd.int .u8) (w0 := w) w.heap.size rfl (.tmp 11) (.tmp 16) 22 5 (.int .u8 0) 1 rfl Try.underlying22 info5 rfl (by decide) (by omega) v103 y102 t105 _ _ _ (fun k_ => some k_ ≠ ob Ao10 t105 co10) (fun _ => False) rfl rfl ?aO ?aR (fun _ _ h => h) (fun _ h => h.elim) ?aF ?aB ?aS ?aL ?_; (case aR => exact sW (Kd.R_reads' HO107.out).2.2); (case aB => exact bB); (case aF => exact (fun k_ hk => Kd.fresh' (Kd.R_lt (aRw HO107)) k_ hk)); (case aO => exact (by (with_reducible repeat (first | apply Kd.R_alloc | apply Kd.R_drewN | apply Kd.R_drew)); exact Kd.R_mono HO104.out (fun _ hk => hk.2))); (case aS => exact (below_size bB)); (case aL => have := LMc3.out; omega); intro v109 w9 ho hb hg hat; rw [← Ny108.out] at ho; replace BK101 := Aside0.mk (blk_grown (g := gb101) (o := .cells #[.slice A0_0 l0_0.length c0_0, .slice A0_1 l0_1.length c0_1] 52 (0, 0)) (aKw BK101) hg (Kd.R_ne HO104.out BK101.out (by decide))); replace HO107 := Aside0.mk (Kd.R_after (ok := (fun _ => True)) (aRw HO107) hg hat); replace HB := Aside0.mk hb; have HO110 := Aside0.mk ho; clear HO104; clear ho hb hg hat))
  go_loopg [3, 4] k (fun kq v3 v4 w' => ∃ (x3_1 : List Int) (x4_1 : Int), v4 = .int .i64 x4_1 ∧ Aside0 (ferruleref23_Bytes.l0 kq x3_1 x4_1 l0_0 l0_1 = some r) ∧ Aside0 (kq ≤ k) ∧ Aside0 (Kd.R (Kd.int .u8) 5 w' w.heap.size (fun _ => True) v3 x3_1) ∧ Aside0 (w'.heap[gb101]? = some (.cells #[(.slice A0_0 l0_0.length c0_0), (.slice A0_1 l0_1.length c0_1)] 52 (0, 0))) ∧ Aside0 (Below w.heap.size w w'))
  case atStart => exact ⟨(y108), (0), bS, H', ⟨Nat.le_refl _⟩, ⟨by (with_reducible repeat (first | apply Kd.R_alloc | apply Kd.R_drewN | apply Kd.R_drew)); exact Kd.R_mono HO110.out (fun _ hk => trivial)⟩, ⟨aKw BK101⟩, ⟨bB⟩⟩
  case round =>
   clear H'
   try clear p2
   try clear c3
   try clear c6
   try clear p6
   try clear hcz7_0
   try clear hcz7_1
   try clear hfz7_0
   try clear hfz7_1
   obtain ⟨x3_1, x4_1, rfl, HA, HK1, HO_3, BK101, HB⟩ := hrel
   cases gk with
   | zero => exact absurd HA.out (by simp [ferruleref23_Bytes.l0])
   | succ k1 =>
    have H := HA.out
    clear HA
    simp only [ferruleref23_Bytes.l0] at H
    by_cases c11 : x4_1 < (l0_0.length : Int)
    ·rw [if_pos c11] at H
     have c11b0 : decide (x4_1 < (l0_0.length : Int)) = true := decide_eq_true c11
     clear c11
     by_cases c12 : 0 ≤ x4_1
     ·rw [if_pos c12] at H
      have c12b0 : decide (0 ≤ x4_1) = true := decide_eq_true c12
      clear c12
      by_cases c13 : x4_1 > 0
      ·rw [if_pos c13] at H
       have c13b0 : decide (0 < x4_1) = true := decide_eq_true c13
       clear c13
       obtain ⟨ji14, hji14⟩ : ∃ j_ : Int, (wrap64 (x4_1 - 1)) = j_ := ⟨_, rfl⟩
       replace H : (if 0 ≤ (ji14) then (if (ji14) < (l0_0.length : Int) then ((ferruleref23_Put.f k1 ((wrap64 ((rd l0_0 x4_1) - (rd l0_0 (ji14)))) % 4294967296)).bind fun t113 => (if x3_1.length + t113.length < 140737488355328 then (ferruleref23_Bytes.l0 k1 (x3_1 ++ t113) (wrap64 (x4_1 + 1)) l0_0 l0_1) else (none))) else (none)) else (none)) = some r := by first | (rw [hji14] at H; exact H) | (simp only [hji14] at H ⊢; exact H)
       have hji14w : (IntKind.i64.wrap (x4_1 - 1)) = ji14 := (i64_w _).trans hji14
       by_cases c15 : 0 ≤ (ji14)
       ·rw [if_pos c15] at H
        have c15b0 : decide (0 ≤ (ji14)) = true := decide_eq_true c15
        clear c15
        by_cases c16 : (ji14) < (l0_0.length : Int)
        ·rw [if_pos c16] at H
         have c16b0 : decide ((ji14) < (l0_0.length : Int)) = true := decide_eq_true c16
         clear c16
         replace H := Option.bind_eq_some_iff.mp H
         obtain ⟨t113, A170, H⟩ := H
         replace H : (if x3_1.length + t113.length < 140737488355328 then (ferruleref23_Bytes.l0 k1 (x3_1 ++ t113) (wrap64 (x4_1 + 1)) l0_0 l0_1) else (none)) = some r := H
         have A17 := Aside0.mk A170
         clear A170
         by_cases c18 : x3_1.length + t113.length < 140737488355328
         ·rw [if_pos c18] at H
          have LMc18 := Aside0.mk c18
          clear c18
          obtain ⟨y116, hy116⟩ : ∃ y_ : List Int, y_ = (x3_1 ++ t113) := ⟨_, rfl⟩
          replace H : (ferruleref23_Bytes.l0 k1 y116 (wrap64 (x4_1 + 1)) l0_0 l0_1) = some r := by first | (rw [hy116]; with_reducible exact H) | (have H2_ := (Option.bind_some _ _).symm.trans H; rw [hy116]; with_reducible exact H2_) | (have H2_ := (Option.bind_some _ _).symm.trans H; with_reducible exact H2_) | with_reducible exact H | (rw [hy116]; exact H) | exact H
          have Ny116 := Aside0.mk hy116
          clear hy116
          have H' := Aside0.mk H
          clear H
          have hcz19_0 : wr.cell? ⟨gb101, 0, none⟩ = some (.slice A0_0 l0_0.length c0_0) := (blk_cell BK101.out 0).trans rfl
          have hcz19_1 : wr.cell? ⟨gb101, 1, none⟩ = some (.slice A0_1 l0_1.length c0_1) := (blk_cell BK101.out 1).trans rfl
          have hfz19_0 := blk_frozen BK101.out 0
          have hfz19_1 := blk_frozen BK101.out 1
          have p111 : 0 ≤ (x4_1 : Int) := oD
          have q111 : x4_1 < (l0_0.length : Int) := oD
          obtain ⟨ad111, e111, hx111_0⟩ := Kd.at_int HR0_0.out x4_1 p111 q111
          cases e111
          replace hx111_0 := (HB.out.cell (World.block_lt_of_cell? w _ hx111_0)).trans hx111_0
          replace p111 := eq_true p111
          replace q111 := eq_true q111
          have p112 : 0 ≤ ((ji14) : Int) := oD
          have q112 : (ji14) < (l0_0.length : Int) := oD
          obtain ⟨ad112, e112, hx112_0⟩ := Kd.at_int HR0_0.out (ji14) p112 q112
          obtain rfl : ad111 = ad112 := (by injection e112)
          replace hx112_0 := (HB.out.cell (World.block_lt_of_cell? w _ hx112_0)).trans hx112_0
          replace p112 := eq_true p112
          replace q112 := eq_true q112
          go_wp2_with (first | ((with_reducible refine gate_callee (f := 69) rfl ?_); refine goesL_ (some 43) rfl rfl Try.func69 (by kernel_rfl) rfl #[.int .u32 ((wrap64 ((rd l0_0 x4_1) - (rd l0_0 (ji14)))) % 4294967296)] rfl (by (try simp only [List.map_toArray, List.map_cons, List.map_nil]); first | done | (simp only [hji14]; rfl) | rfl | (simp only [List.length_drop, List.length_take]; rfl)) ?_; (with_reducible refine (ferruleref23_Put.calls k1 ((wrap64 ((rd l0_0 x4_1) - (rd l0_0 (ji14)))) % 4294967296) t113 _ A17.out).mono ?_); rintro e w20 ⟨v114, rfl, ho0, hb⟩; refine ⟨_, rfl, ?_⟩; have HO115 := aN ho0 HO_3 HB; replace HO_3 := aE HO_3 ho0 hb; replace BK101 := aK BK101 hb; replace HB := aB HB hb; (try clear hb); (try clear hb2); (try clear hk); (try clear hi); (try clear ho0); obtain ⟨Ao22, co22, eo22⟩ := Kd.R_slice HO115.out; subst eo22) | ((with_reducible refine gate_builtin (b := .append) (xs := #[.tmp 40, .tmp 43]) rfl ?_); at_builtin; refine Kd.R_append_rows (Kd.int .u8) (w0 := w) w.heap.size rfl (.tmp 40) (.tmp 43) 22 5 (.int .u8 0) 1 rfl Try.underlying22 info5 rfl (by decide) (by omega) u3 x3_1 t113 _ _ _ (fun k_ => some k_ ≠ ob Ao22 t113 co22) (fun _ => False) rfl rfl ?aO ?aR (fun _ _ h => h) (fun _ h => h.elim) ?aF ?aB ?aS ?aL ?_; (case aR => exact sW (Kd.R_reads' HO115.out).2.2); (case aB => exact bB); (case aF => exact (fun k_ hk => Kd.fresh' (Kd.R_lt (aRw HO115)) k_ hk)); (case aO => exact (by (with_reducible repeat (first | apply Kd.R_alloc | apply Kd.R_drewN | apply Kd.R_drew)); exact Kd.R_mono HO_3.out (fun _ hk => hk.2))); (case aS => exact (below_size bB)); (case aL => have := LMc18.out; omega); intro v117 w21 ho hb hg hat; rw [← Ny116.out] at ho; replace BK101 := Aside0.mk (blk_grown (g := gb101) (o := .cells #[.slice (some ad111) l0_0.length c0_0, .slice A0_1 l0_1.length c0_1] 52 (0, 0)) (aKw BK101) hg (Kd.R_ne HO_3.out BK101.out (by decide))); replace HO115 := Aside0.mk (Kd.R_after (ok := (fun _ => True)) (aRw HO115) hg hat); replace HB := Aside0.mk hb; have HO118 := Aside0.mk ho; clear HO_3; clear ho hb hg hat))
          go_roundg k1
          case measure => have := HK1.out; omega
          case rel => exact ⟨(y116), (wrap64 (x4_1 + 1)), bS, H', ⟨by have := HK1.out; omega⟩, ⟨by (with_reducible repeat (first | apply Kd.R_alloc | apply Kd.R_drewN | apply Kd.R_drew)); exact Kd.R_mono HO118.out (fun _ hk => trivial)⟩, ⟨aKw BK101⟩, ⟨bB⟩⟩
         ·rw [if_neg c18] at H
          exact absurd H (by simp)
        ·rw [if_neg c16] at H
         exact absurd H (by simp)
       ·rw [if_neg c15] at H
        exact absurd H (by simp)
      ·rw [if_neg c13] at H
       have c13b0 : decide (0 < x4_1) = false := decide_eq_false c13
       clear c13
       replace H := Option.bind_eq_some_iff.mp H
       obtain ⟨t119, A230, H⟩ := H
       replace H : (if x3_1.length + t119.length < 140737488355328 then (ferruleref23_Bytes.l0 k1 (x3_1 ++ t119) (wrap64 (x4_1 + 1)) l0_0 l0_1) else (none)) = some r := H
       have A23 := Aside0.mk A230
       clear A230
       by_cases c24 : x3_1.length + t119.length < 140737488355328
       ·rw [if_pos c24] at H
        have LMc24 := Aside0.mk c24
        clear c24
        obtain ⟨y122, hy122⟩ : ∃ y_ : List Int, y_ = (x3_1 ++ t119) := ⟨_, rfl⟩
        replace H : (ferruleref23_Bytes.l0 k1 y122 (wrap64 (x4_1 + 1)) l0_0 l0_1) = some r := by first | (rw [hy122]; with_reducible exact H) | (have H2_ := (Option.bind_some _ _).symm.trans H; rw [hy122]; with_reducible exact H2_) | (have H2_ := (Option.bind_some _ _).symm.trans H; with_reducible exact H2_) | with_reducible exact H | (rw [hy122]; exact H) | exact H
        have Ny122 := Aside0.mk hy122
        clear hy122
        have H' := Aside0.mk H
        clear H
        have hcz25_0 : wr.cell? ⟨gb101, 0, none⟩ = some (.slice A0_0 l0_0.length c0_0) := (blk_cell BK101.out 0).trans rfl
        have hcz25_1 : wr.cell? ⟨gb101, 1, none⟩ = some (.slice A0_1 l0_1.length c0_1) := (blk_cell BK101.out 1).trans rfl
        have hfz25_0 := blk_frozen BK101.out 0
        have hfz25_1 := blk_frozen BK101.out 1
        have p111 : 0 ≤ (x4_1 : Int) := oD
        have q111 : x4_1 < (l0_0.length : Int) := oD
        obtain ⟨ad111, e111, hx111_0⟩ := Kd.at_int HR0_0.out x4_1 p111 q111
        cases e111
        replace hx111_0 := (HB.out.cell (World.block_lt_of_cell? w _ hx111_0)).trans hx111_0
        replace p111 := eq_true p111
        replace q111 := eq_true q111
        go_wp2_with (first | ((with_reducible refine gate_callee (f := 69) rfl ?_); refine goesL_ (some 43) rfl rfl Try.func69 (by kernel_rfl) rfl #[.int .u32 ((rd l0_0 x4_1) % 4294967296)] rfl bM ?_; (with_reducible refine (ferruleref23_Put.calls k1 ((rd l0_0 x4_1) % 4294967296) t119 _ A23.out).mono ?_); rintro e w26 ⟨v120, rfl, ho0, hb⟩; refine ⟨_, rfl, ?_⟩; have HO121 := aN ho0 HO_3 HB; replace HO_3 := aE HO_3 ho0 hb; replace BK101 := aK BK101 hb; replace HB := aB HB hb; (try clear hb); (try clear hb2); (try clear hk); (try clear hi); (try clear ho0); obtain ⟨Ao28, co28, eo28⟩ := Kd.R_slice HO121.out; subst eo28) | ((with_reducible refine gate_builtin (b := .append) (xs := #[.tmp 40, .tmp 43]) rfl ?_); at_builtin; refine Kd.R_append_rows (Kd.int .u8) (w0 := w) w.heap.size rfl (.tmp 40) (.tmp 43) 22 5 (.int .u8 0) 1 rfl Try.underlying22 info5 rfl (by decide) (by omega) u3 x3_1 t119 _ _ _ (fun k_ => some k_ ≠ ob Ao28 t119 co28) (fun _ => False) rfl rfl ?aO ?aR (fun _ _ h => h) (fun _ h => h.elim) ?aF ?aB ?aS ?aL ?_; (case aR => exact sW (Kd.R_reads' HO121.out).2.2); (case aB => exact bB); (case aF => exact (fun k_ hk => Kd.fresh' (Kd.R_lt (aRw HO121)) k_ hk)); (case aO => exact (by (with_reducible repeat (first | apply Kd.R_alloc | apply Kd.R_drewN | apply Kd.R_drew)); exact Kd.R_mono HO_3.out (fun _ hk => hk.2))); (case aS => exact (below_size bB)); (case aL => have := LMc24.out; omega); intro v123 w27 ho hb hg hat; rw [← Ny122.out] at ho; replace BK101 := Aside0.mk (blk_grown (g := gb101) (o := .cells #[.slice (some ad111) l0_0.length c0_0, .slice A0_1 l0_1.length c0_1] 52 (0, 0)) (aKw BK101) hg (Kd.R_ne HO_3.out BK101.out (by decide))); replace HO121 := Aside0.mk (Kd.R_after (ok := (fun _ => True)) (aRw HO121) hg hat); replace HB := Aside0.mk hb; have HO124 := Aside0.mk ho; clear HO_3; clear ho hb hg hat))
        go_roundg k1
        case measure => have := HK1.out; omega
        case rel => exact ⟨(y122), (wrap64 (x4_1 + 1)), bS, H', ⟨by have := HK1.out; omega⟩, ⟨by (with_reducible repeat (first | apply Kd.R_alloc | apply Kd.R_drewN | apply Kd.R_drew)); exact Kd.R_mono HO124.out (fun _ hk => trivial)⟩, ⟨aKw BK101⟩, ⟨bB⟩⟩
       ·rw [if_neg c24] at H
        exact absurd H (by simp)
     ·rw [if_neg c12] at H
      exact absurd H (by simp)
    ·rw [if_neg c11] at H
     have c11b0 : decide (x4_1 < (l0_0.length : Int)) = false := decide_eq_false c11
     clear c11
     replace H := Option.bind_eq_some_iff.mp H
     obtain ⟨t125, A290, H⟩ := H
     replace H : (if x3_1.length + t125.length < 140737488355328 then (ferruleref23_Bytes.l1 k1 (x3_1 ++ t125) 0 l0_0 l0_1) else (none)) = some r := H
     have A29 := Aside0.mk A290
     clear A290
     by_cases c30 : x3_1.length + t125.length < 140737488355328
     ·rw [if_pos c30] at H
      have LMc30 := Aside0.mk c30
      clear c30
      obtain ⟨y128, hy128⟩ : ∃ y_ : List Int, y_ = (x3_1 ++ t125) := ⟨_, rfl⟩
      replace H : (ferruleref23_Bytes.l1 k1 y128 0 l0_0 l0_1) = some r := by first | (rw [hy128]; with_reducible exact H) | (have H2_ := (Option.bind_some _ _).symm.trans H; rw [hy128]; with_reducible exact H2_) | (have H2_ := (Option.bind_some _ _).symm.trans H; with_reducible exact H2_) | with_reducible exact H | (rw [hy128]; exact H) | exact H
      have Ny128 := Aside0.mk hy128
      clear hy128
      have H' := Aside0.mk H
      clear H
      have hcz31_0 : wr.cell? ⟨gb101, 0, none⟩ = some (.slice A0_0 l0_0.length c0_0) := (blk_cell BK101.out 0).trans rfl
      have hcz31_1 : wr.cell? ⟨gb101, 1, none⟩ = some (.slice A0_1 l0_1.length c0_1) := (blk_cell BK101.out 1).trans rfl
      have hfz31_0 := blk_frozen BK101.out 0
      have hfz31_1 := blk_frozen BK101.out 1
      go_wp2_with (first | ((with_reducible refine gate_callee (f := 69) rfl ?_); refine goesL_ (some 50) rfl rfl Try.func69 (by kernel_rfl) rfl #[.int .u32 (((l0_1.length : Int)) % 4294967296)] rfl bM ?_; (with_reducible refine (ferruleref23_Put.calls k1 (((l0_1.length : Int)) % 4294967296) t125 _ A29.out).mono ?_); rintro e w32 ⟨v126, rfl, ho0, hb⟩; refine ⟨_, rfl, ?_⟩; have HO127 := aN ho0 HO_3 HB; replace HO_3 := aE HO_3 ho0 hb; replace BK101 := aK BK101 hb; replace HB := aB HB hb; (try clear hb); (try clear hb2); (try clear hk); (try clear hi); (try clear ho0); obtain ⟨Ao34, co34, eo34⟩ := Kd.R_slice HO127.out; subst eo34) | ((with_reducible refine gate_builtin (b := .append) (xs := #[.tmp 45, .tmp 50]) rfl ?_); at_builtin; refine Kd.R_append_rows (Kd.int .u8) (w0 := w) w.heap.size rfl (.tmp 45) (.tmp 50) 22 5 (.int .u8 0) 1 rfl Try.underlying22 info5 rfl (by decide) (by omega) u3 x3_1 t125 _ _ _ (fun k_ => some k_ ≠ ob Ao34 t125 co34) (fun _ => False) rfl rfl ?aO ?aR (fun _ _ h => h) (fun _ h => h.elim) ?aF ?aB ?aS ?aL ?_; (case aR => exact sW (Kd.R_reads' HO127.out).2.2); (case aB => exact bB); (case aF => exact (fun k_ hk => Kd.fresh' (Kd.R_lt (aRw HO127)) k_ hk)); (case aO => exact (by (with_reducible repeat (first | apply Kd.R_alloc | apply Kd.R_drewN | apply Kd.R_drew)); exact Kd.R_mono HO_3.out (fun _ hk => hk.2))); (case aS => exact (below_size bB)); (case aL => have := LMc30.out; omega); intro v129 w33 ho hb hg hat; rw [← Ny128.out] at ho; replace BK101 := Aside0.mk (blk_grown (g := gb101) (o := .cells #[.slice A0_0 l0_0.length c0_0, .slice A0_1 l0_1.length c0_1] 52 (0, 0)) (aKw BK101) hg (Kd.R_ne HO_3.out BK101.out (by decide))); replace HO127 := Aside0.mk (Kd.R_after (ok := (fun _ => True)) (aRw HO127) hg hat); replace HB := Aside0.mk hb; have HO130 := Aside0.mk ho; clear HO_3; clear ho hb hg hat))
      go_loopg [3, 6] k1 (fun kq v3 v6 w' => ∃ (x3_2 : List Int) (x6_2 : Int), v6 = .int .i64 x6_2 ∧ Aside0 (ferruleref23_Bytes.l1 kq x3_2 x6_2 l0_0 l0_1 = some r) ∧ Aside0 (kq ≤ k1) ∧ Aside0 (Kd.R (Kd.int .u8) 5 w' w.heap.size (fun _ => True) v3 x3_2) ∧ Aside0 (w'.heap[gb101]? = some (.cells #[(.slice A0_0 l0_0.length c0_0), (.slice A0_1 l0_1.length c0_1)] 52 (0, 0))) ∧ Aside0 (Below w.heap.size w w'))
      case atStart => exact ⟨(y128), (0), bS, H', ⟨Nat.le_refl _⟩, ⟨by (with_reducible repeat (first | apply Kd.R_alloc | apply Kd.R_drewN | apply Kd.R_drew)); exact Kd.R_mono HO130.out (fun _ hk => trivial)⟩, ⟨aKw BK101⟩, ⟨bB⟩⟩
      case round =>
       clear H'
       try clear c1
       try clear p1
       try clear q1
       try clear hx1
       try clear c2
       try clear p2
       try clear c3
       try clear c6
       try clear p6
       try clear c11
       try clear c11b0
       try clear p11
       try clear q11
       try clear hx11
       try clear c12
       try clear c12b0
       try clear c13
       try clear c13b0
       try clear c15
       try clear c15b0
       try clear c16
       try clear c16b0
       try clear c18
       try clear c24
       try clear c30
       try clear c31
       try clear hcz19_0
       try clear hcz19_1
       try clear hcz25_0
       try clear hcz25_1
       try clear hcz31_0
       try clear hcz31_1
       try clear hcz7_0
       try clear hcz7_1
       try clear hfz19_0
       try clear hfz19_1
       try clear hfz25_0
       try clear hfz25_1
       try clear hfz31_0
       try clear hfz31_1
       try clear hfz7_0
       try clear hfz7_1
       try clear hx111_0
       try clear hx112_0
       try clear p111
       try clear p112
       try clear p2
       try clear p6
       try clear q111
       try clear q112
       obtain ⟨x3_2, x6_2, rfl, HA, HK2, HO_3, BK101, HB⟩ := hrel
       cases gk with
       | zero => exact absurd HA.out (by simp [ferruleref23_Bytes.l1])
       | succ k2 =>
        have H := HA.out
        clear HA
        simp only [ferruleref23_Bytes.l1] at H
        by_cases c35 : x6_2 < (l0_1.length : Int)
        ·rw [if_pos c35] at H
         have c35b0 : decide (x6_2 < (l0_1.length : Int)) = true := decide_eq_true c35
         clear c35
         by_cases c36 : 0 ≤ x6_2
         ·rw [if_pos c36] at H
          have c36b0 : decide (0 ≤ x6_2) = true := decide_eq_true c36
          clear c36
          replace H := Option.bind_eq_some_iff.mp H
          obtain ⟨t133, A370, H⟩ := H
          replace H : (if x3_2.length + t133.length < 140737488355328 then ((some (x3_2 ++ t133 : List Int)).bind fun y136 => ((ferruleref23_Put.f k2 (((((rd_T95 l0_1 x6_2).f1).length : Int)) % 4294967296)).bind fun t139 => (if y136.length + t139.length < 140737488355328 then (ferruleref23_Bytes.l2 k2 (y136 ++ t139) x6_2 0 l0_0 l0_1 ((rd_T95 l0_1 x6_2).f0) ((rd_T95 l0_1 x6_2).f1)) else (none)))) else (none)) = some r := H
          have A37 := Aside0.mk A370
          clear A370
          by_cases c38 : x3_2.length + t133.length < 140737488355328
          ·rw [if_pos c38] at H
           have LMc38 := Aside0.mk c38
           clear c38
           obtain ⟨y136, hy136⟩ : ∃ y_ : List Int, y_ = (x3_2 ++ t133) := ⟨_, rfl⟩
           replace H : ((ferruleref23_Put.f k2 (((((rd_T95 l0_1 x6_2).f1).length : Int)) % 4294967296)).bind fun t139 => (if y136.length + t139.length < 140737488355328 then (ferruleref23_Bytes.l2 k2 (y136 ++ t139) x6_2 0 l0_0 l0_1 ((rd_T95 l0_1 x6_2).f0) ((rd_T95 l0_1 x6_2).f1)) else (none))) = some r := by first | (rw [hy136]; with_reducible exact H) | (have H2_ := (Option.bind_some _ _).symm.trans H; rw [hy136]; with_reducible exact H2_) | (have H2_ := (Option.bind_some _ _).symm.trans H; with_reducible exact H2_) | with_reducible exact H | (rw [hy136]; exact H) | exact H
           have Ny136 := Aside0.mk hy136
           clear hy136
           replace H := Option.bind_eq_some_iff.mp H
           obtain ⟨t139, A390, H⟩ := H
           replace H : (if y136.length + t139.length < 140737488355328 then (ferruleref23_Bytes.l2 k2 (y136 ++ t139) x6_2 0 l0_0 l0_1 ((rd_T95 l0_1 x6_2).f0) ((rd_T95 l0_1 x6_2).f1)) else (none)) = some r := H
           have A39 := Aside0.mk A390
           clear A390
           by_cases c40 : y136.length + t139.length < 140737488355328
           ·rw [if_pos c40] at H
            have LMc40 := Aside0.mk c40
            clear c40
            obtain ⟨y142, hy142⟩ : ∃ y_ : List Int, y_ = (y136 ++ t139) := ⟨_, rfl⟩
            replace H : (ferruleref23_Bytes.l2 k2 y142 x6_2 0 l0_0 l0_1 ((rd_T95 l0_1 x6_2).f0) ((rd_T95 l0_1 x6_2).f1)) = some r := by first | (rw [hy142]; with_reducible exact H) | (have H2_ := (Option.bind_some _ _).symm.trans H; rw [hy142]; with_reducible exact H2_) | (have H2_ := (Option.bind_some _ _).symm.trans H; with_reducible exact H2_) | with_reducible exact H | (rw [hy142]; exact H) | exact H
            have Ny142 := Aside0.mk hy142
            clear hy142
            have H' := Aside0.mk H
            clear H
            have hcz41_0 : wr.cell? ⟨gb101, 0, none⟩ = some (.slice A0_0 l0_0.length c0_0) := (blk_cell BK101.out 0).trans rfl
            have hcz41_1 : wr.cell? ⟨gb101, 1, none⟩ = some (.slice A0_1 l0_1.length c0_1) := (blk_cell BK101.out 1).trans rfl
            have hfz41_0 := blk_frozen BK101.out 0
            have hfz41_1 := blk_frozen BK101.out 1
            have p131 : 0 ≤ (x6_2 : Int) := oD
            have q131 : x6_2 < (l0_1.length : Int) := oD
            obtain ⟨ad131, A131_1, c131_1, e131, hx131_0, hx131_1, hl131_1, hi131_1⟩ := at_T95 HR0_1.out x6_2 p131 q131
            cases e131
            replace hx131_0 := (HB.out.cell (World.block_lt_of_cell? w _ hx131_0)).trans hx131_0
            replace hx131_1 := (HB.out.cell (World.block_lt_of_cell? w _ hx131_1)).trans hx131_1
            have HR131_1 := Aside0.mk hi131_1
            have HC131_1 := Aside0.mk hl131_1
            clear hi131_1 hl131_1
            replace p131 := eq_true p131
            replace q131 := eq_true q131
            try go_wp2_with (first | ((with_reducible refine gate_dst (N := 7) rfl ?_); refine box_event ?hg (N := 7) ?hd (cs := #[.int .i64 0, .slice none 0 0]) (t := 95) ?hr ?_; (case hd => rfl); (case hg => rfl); (case hr => first | (go_simp; done) | (go_simp; rfl)); intro gb132 hg w42 hbox hb; replace HO_3 := aR HO_3 hb; have BK132 := Aside0.mk hbox; have GW132 := Aside0.mk ((by rw [hg]; exact (below_size bB) : w.heap.size ≤ gb132)); have GE132 := Aside0.mk ((by rw [hg]; exact (below_size bB) : w.heap.size ≤ gb132)); replace HB := aB HB hb; have NB101_132 := Aside0.mk ((by rw [hg]; exact Nat.ne_of_lt (blk_lt (g := gb101) (o := .cells #[.slice A0_0 l0_0.length c0_0, .slice (some ad131) l0_1.length c0_1] 52 (0, 0)) (aKw BK101)) : gb101 ≠ gb132)); have NB132_101 := Aside0.mk ((by rw [hg]; exact Nat.ne_of_gt (blk_lt (g := gb101) (o := .cells #[.slice A0_0 l0_0.length c0_0, .slice (some ad131) l0_1.length c0_1] 52 (0, 0)) (aKw BK101)) : gb132 ≠ gb101)); replace BK101 := aK BK101 hb; clear hb hbox hg; have hnb43 := NB132_101.out; have hnc43 := NB101_132.out; have hcz44_0 : w42.cell? ⟨gb132, 0, none⟩ = some (.int .i64 0) := (blk_cell BK132.out 0).trans rfl; have hcz44_1 : w42.cell? ⟨gb132, 1, none⟩ = some (.slice none 0 0) := (blk_cell BK132.out 1).trans rfl; have hfz44_0 := blk_frozen BK132.out 0; have hfz44_1 := blk_frozen BK132.out 1))
            generalize hW_ : ((w42.setCell ⟨gb132, 0, none⟩ (.int .i64 ((rd_T95 l0_1 x6_2).f0))).setCell ⟨gb132, 1, none⟩ (.slice A131_1 ((rd_T95 l0_1 x6_2).f1).length c131_1)) = w45
            have n0_ : Aside0 (Kd.R (Kd.int .u8) 5 w45 w.heap.size (fun _ => True) u3 x3_2) := ⟨by subst hW_; (with_reducible repeat (first | apply Kd.R_alloc | apply Kd.R_drewN | apply Kd.R_drew)); exact Kd.R_mono (aG HO_3 BK132) (fun _ hk => trivial)⟩
            have n1_ : Aside0 (w45.heap[gb101]? = some (.cells #[.slice A0_0 l0_0.length c0_0, .slice (some ad131) l0_1.length c0_1] 52 (0, 0))) := ⟨by subst hW_; (with_reducible repeat (first | refine blk_drewN ?_ _ | refine blk_drew ?_ | refine blk_alloc ?_ _)); refine blk_far ?_ NB101_132.out _; (with_reducible repeat (first | refine blk_drewN ?_ _ | refine blk_drew ?_ | refine blk_alloc ?_ _)); refine blk_far ?_ NB101_132.out _; (with_reducible repeat (first | refine blk_drewN ?_ _ | refine blk_drew ?_ | refine blk_alloc ?_ _)); exact BK101.out⟩
            have n2_ : Aside0 (w45.heap[gb132]? = some (.cells #[.int .i64 ((rd_T95 l0_1 x6_2).f0), .slice A131_1 ((rd_T95 l0_1 x6_2).f1).length c131_1] 95 (0, 0))) := ⟨by subst hW_; (with_reducible repeat (first | refine blk_drewN ?_ _ | refine blk_drew ?_ | refine blk_alloc ?_ _)); refine blk_put (cs := #[.int .i64 ((rd_T95 l0_1 x6_2).f0), .slice none 0 0]) ?_ 1 _ rfl; (with_reducible repeat (first | refine blk_drewN ?_ _ | refine blk_drew ?_ | refine blk_alloc ?_ _)); refine blk_put (cs := #[.int .i64 0, .slice none 0 0]) ?_ 0 _ rfl; (with_reducible repeat (first | refine blk_drewN ?_ _ | refine blk_drew ?_ | refine blk_alloc ?_ _)); exact BK132.out⟩
            have n3_ : Aside0 (Below w.heap.size w w45) := ⟨by subst hW_; exact bB⟩
            (try clear HO_3)
            (try clear BK101)
            (try clear BK132)
            (try clear HB)
            clear hW_
            have HO_3 := n0_
            have BK101 := n1_
            have BK132 := n2_
            have HB := n3_
            clear n0_ n1_ n2_ n3_
            replace HO_3 := Aside0.mk (Kd.R_drew HO_3.out)
            replace BK101 := Aside0.mk (blk_drew BK101.out)
            replace BK132 := Aside0.mk (blk_drew BK132.out)
            replace HB := Aside0.mk (below_drew1 HB.out)
            refine start_ (n := 13) (S := fun w' => w'.cell? ⟨gb132, 0, none⟩ = some (.int .i64 ((rd_T95 l0_1 x6_2).f0)) ∧ w'.cell? ⟨gb132, 1, none⟩ = some (.slice A131_1 ((rd_T95 l0_1 x6_2).f1).length c131_1)) (ds := []) #[false, false, false, false, false, false, false, false, false, false, false, false, false] (by kernel_rfl) rfl rfl ⟨(blk_cell BK132.out 0).trans rfl, (blk_cell BK132.out 1).trans rfl⟩ (fun hHeld => ?_); refine with_tabW ferruleref23_Bytes.tab15 ferruleref23_Bytes.bits15 (fun HT_ HW_ => ?_)
            generalize w45.drew = w46 at HO_3 BK101 BK132 HB hHeld ⊢
            refine pV 0 64 rfl rfl ?_
            refine pV 1 65 rfl rfl ?_
            refine pV 6 70 rfl rfl ?_
            refine tV 2 66 rfl rfl ?_
            refine pV 3 67 rfl rfl ?_
            refine tV 7 71 rfl rfl ?_
            refine pV 8 72 rfl rfl ?_
            refine pV 9 73 rfl rfl ?_
            refine one_ (i := 4) (N := some 68) #[true, true, true, true, true, false, true, true, true, true, false, false, false] rfl rfl (one_of HT_.out (by kernel_rfl)) (by decide) (fun K hK => ?_)
            refine goes_ Try.func69 (by kernel_rfl) rfl #[.int .u32 (((rd_T95 l0_1 x6_2).f0) % 4294967296)] (by rfl) rfl rfl bM ?_
            with_reducible refine (ferruleref23_Put.calls k2 (((rd_T95 l0_1 x6_2).f0) % 4294967296) t133 _ A37.out).mono ?_
            rintro e w47 ⟨v134, rfl, ho0, hb⟩
            refine ⟨_, rfl, ?_⟩
            have HO135 := aN ho0 HO_3 HB
            replace HO_3 := aE HO_3 ho0 hb
            replace BK101 := aK BK101 hb
            replace BK132 := aK BK132 hb
            replace HB := aB HB hb
            (try clear hb)
            (try clear hb2)
            (try clear hk)
            (try clear hi)
            (try clear ho0)
            obtain ⟨Ao49, co49, eo49⟩ := Kd.R_slice HO135.out
            (first | subst eo49 | (injection eo49 with f1_ f2_ f3_; have f4_ := f1_.symm; have f5_ := f3_.symm; clear f1_ f2_ f3_; subst f4_; subst f5_))
            refine hK.out _ _ ⟨(blk_cell BK132.out 0).trans rfl, (blk_cell BK132.out 1).trans rfl⟩ (fun hHeld => ?_)
            clear hK K
            refine norm_ (a' := ?_) ?_ ?_
            rotate_left
            ·show Act.put _ (some 68) _ = _
             simp only [Act.put, List.setIfInBounds_toArray, List.set_cons_zero, List.set_cons_succ, i64_w, i32_w]
             rfl
            refine one_ (i := 5) (N := some 69) #[true, true, true, true, true, true, true, true, true, true, false, false, false] rfl rfl (one_of HT_.out (by kernel_rfl)) (by decide) (fun K hK => ?_)
            refine Kd.R_append_rows_step (Kd.int .u8) (w0 := w) w.heap.size (by rfl) (.tmp 64) (.tmp 68) 22 5 (.int .u8 0) 1 rfl Try.underlying22 info5 rfl (by decide) (by omega) u3 x3_2 t133 _ _ _ (fun k_ => some k_ ≠ ob Ao49 t133 co49) (fun _ => False) rfl rfl ?aO ?aR (fun _ _ h => h) (fun _ h => h.elim) ?aF ?aB ?aS ?aL ?_
            (case aR => exact sW (Kd.R_reads' HO135.out).2.2)
            (case aB => exact bB)
            (case aF => exact (fun k_ hk => Kd.fresh' (Kd.R_lt (aRw HO135)) k_ hk))
            (case aO => exact (by (with_reducible repeat (first | apply Kd.R_alloc | apply Kd.R_drewN | apply Kd.R_drew)); exact Kd.R_mono HO_3.out (fun _ hk => hk.2)))
            (case aS => exact (below_size bB))
            (case aL => have := LMc38.out; omega)
            intro v137 w48 ho hb hg hat
            rw [← Ny136.out] at ho
            replace BK101 := Aside0.mk (blk_grown (g := gb101) (o := .cells #[.slice A0_0 l0_0.length c0_0, .slice (some ad131) l0_1.length c0_1] 52 (0, 0)) (aKw BK101) hg (Kd.R_ne HO_3.out BK101.out (by decide)))
            replace BK132 := Aside0.mk (blk_grown (g := gb132) (o := .cells #[.int .i64 ((rd_T95 l0_1 x6_2).f0), .slice A131_1 ((rd_T95 l0_1 x6_2).f1).length c131_1] 95 (0, 0)) (aKw BK132) hg (Kd.R_ne HO_3.out BK132.out (by decide)))
            replace HO135 := Aside0.mk (Kd.R_after (ok := (fun _ => True)) (aRw HO135) hg hat)
            replace HB := Aside0.mk hb
            have HO138 := Aside0.mk ho
            clear HO_3
            clear ho hb hg hat
            refine hK.out _ _ ⟨(blk_cell BK132.out 0).trans rfl, (blk_cell BK132.out 1).trans rfl⟩ (fun hHeld => ?_)
            clear hK K
            refine norm_ (a' := ?_) ?_ ?_
            rotate_left
            ·show Act.put _ (some 69) _ = _
             simp only [Act.put, List.setIfInBounds_toArray, List.set_cons_zero, List.set_cons_succ, i64_w, i32_w]
             rfl
            refine one_ (i := 10) (N := some 74) #[true, true, true, true, true, true, true, true, true, true, true, false, false] rfl rfl (one_of HT_.out (by kernel_rfl)) (by decide) (fun K hK => ?_)
            refine goes_ Try.func69 (by kernel_rfl) rfl #[.int .u32 (((((rd_T95 l0_1 x6_2).f1).length : Int)) % 4294967296)] (by rfl) rfl rfl bM ?_
            with_reducible refine (ferruleref23_Put.calls k2 (((((rd_T95 l0_1 x6_2).f1).length : Int)) % 4294967296) t139 _ A39.out).mono ?_
            rintro e w50 ⟨v140, rfl, ho0, hb⟩
            refine ⟨_, rfl, ?_⟩
            have HO141 := Aside0.mk (Kd.R_lower (Kd.R_new' (Kd.R_new' ho0 (Kd.R_lt (aRw HO135))) (Kd.R_lt (aRw HO138))) (below_size bB))
            replace HO135 := aE HO135 ho0 hb
            replace HO138 := aE HO138 ho0 hb
            replace BK101 := aK BK101 hb
            replace BK132 := aK BK132 hb
            replace HB := aB HB hb
            (try clear hb)
            (try clear hb2)
            (try clear hk)
            (try clear hi)
            (try clear ho0)
            obtain ⟨Ao52, co52, eo52⟩ := Kd.R_slice HO141.out
            (first | subst eo52 | (injection eo52 with f1_ f2_ f3_; have f4_ := f1_.symm; have f5_ := f3_.symm; clear f1_ f2_ f3_; subst f4_; subst f5_))
            refine hK.out _ _ ⟨(blk_cell BK132.out 0).trans rfl, (blk_cell BK132.out 1).trans rfl⟩ (fun hHeld => ?_)
            clear hK K
            refine norm_ (a' := ?_) ?_ ?_
            rotate_left
            ·show Act.put _ (some 74) _ = _
             simp only [Act.put, List.setIfInBounds_toArray, List.set_cons_zero, List.set_cons_succ, i64_w, i32_w]
             rfl
            refine one_ (i := 11) (N := some 75) #[true, true, true, true, true, true, true, true, true, true, true, true, false] rfl rfl (one_of HT_.out (by kernel_rfl)) (by decide) (fun K hK => ?_)
            refine Kd.R_append_rows_step (Kd.int .u8) (w0 := w) w.heap.size (by rfl) (.tmp 69) (.tmp 74) 22 5 (.int .u8 0) 1 rfl Try.underlying22 info5 rfl (by decide) (by omega) v137 y136 t139 _ _ _ (fun k_ => some k_ ≠ ob Ao49 t133 co49 ∧ some k_ ≠ ob Ao52 t139 co52) (fun _ => False) rfl rfl ?aO ?aR (fun _ _ h => h) (fun _ h => h.elim) ?aF ?aB ?aS ?aL ?_
            (case aR => exact sW (Kd.R_reads' HO141.out).2.2)
            (case aB => exact bB)
            (case aF => exact (fun k_ hk => ⟨Kd.fresh' (Kd.R_lt (aRw HO135)) k_ hk, Kd.fresh' (Kd.R_lt (aRw HO141)) k_ hk⟩))
            (case aO => exact (aRw HO138))
            (case aS => exact (below_size bB))
            (case aL => have := LMc40.out; omega)
            intro v143 w51 ho hb hg hat
            rw [← Ny142.out] at ho
            replace BK101 := Aside0.mk (blk_grown (g := gb101) (o := .cells #[.slice A0_0 l0_0.length c0_0, .slice (some ad131) l0_1.length c0_1] 52 (0, 0)) (aKw BK101) hg (Kd.R_ne HO138.out BK101.out (by decide)))
            replace BK132 := Aside0.mk (blk_grown (g := gb132) (o := .cells #[.int .i64 ((rd_T95 l0_1 x6_2).f0), .slice A131_1 ((rd_T95 l0_1 x6_2).f1).length c131_1] 95 (0, 0)) (aKw BK132) hg (Kd.R_ne HO138.out BK132.out (by decide)))
            replace HO135 := Aside0.mk (Kd.R_after (ok := (fun k_ => some k_ ≠ ob Ao52 t139 co52)) (by (with_reducible repeat (first | apply Kd.R_alloc | apply Kd.R_drewN | apply Kd.R_drew)); exact Kd.R_mono HO135.out bK) hg hat)
            replace HO141 := Aside0.mk (Kd.R_after (ok := (fun k_ => some k_ ≠ ob Ao49 t133 co49)) (by (with_reducible repeat (first | apply Kd.R_alloc | apply Kd.R_drewN | apply Kd.R_drew)); exact Kd.R_mono HO141.out bK) hg hat)
            replace HB := Aside0.mk hb
            have HO144 := Aside0.mk ho
            clear HO138
            clear ho hb hg hat
            refine hK.out _ _ ⟨(blk_cell BK132.out 0).trans rfl, (blk_cell BK132.out 1).trans rfl⟩ (fun hHeld => ?_)
            clear hK K
            refine norm_ (a' := ?_) ?_ ?_
            rotate_left
            ·show Act.put _ (some 75) _ = _
             simp only [Act.put, List.setIfInBounds_toArray, List.set_cons_zero, List.set_cons_succ, i64_w, i32_w]
             rfl
            refine pV 12 3 rfl rfl ?_
            refine done_ (done_of HT_.out (by kernel_rfl)) ?_
            try go_wp2
            go_loopg [3, 8] k2 (fun kq v3 v8 w' => ∃ (x3_3 : List Int) (x8_3 : Int), v8 = .int .i64 x8_3 ∧ Aside0 (ferruleref23_Bytes.l2 kq x3_3 x6_2 x8_3 l0_0 l0_1 ((rd_T95 l0_1 x6_2).f0) ((rd_T95 l0_1 x6_2).f1) = some r) ∧ Aside0 (kq ≤ k2) ∧ Aside0 (Kd.R (Kd.int .u8) 5 w' w.heap.size (fun _ => True) v3 x3_3) ∧ Aside0 (w'.heap[gb101]? = some (.cells #[(.slice A0_0 l0_0.length c0_0), (.slice (some ad131) l0_1.length c0_1)] 52 (0, 0))) ∧ Aside0 (w'.heap[gb132]? = some (.cells #[.int .i64 ((rd_T95 l0_1 x6_2).f0), (.slice A131_1 ((rd_T95 l0_1 x6_2).f1).length c131_1)] 95 (0, 0))) ∧ Aside0 (Below w.heap.size w w'))
            case atStart => exact ⟨(y142), (0), bS, H', ⟨Nat.le_refl _⟩, ⟨by (with_reducible repeat (first | apply Kd.R_alloc | apply Kd.R_drewN | apply Kd.R_drew)); exact Kd.R_mono HO144.out (fun _ hk => trivial)⟩, ⟨aKw BK101⟩, ⟨aKw BK132⟩, ⟨bB⟩⟩
            case round =>
             clear H'
             try clear c1
             try clear p1
             try clear q1
             try clear hx1
             try clear c2
             try clear p2
             try clear c3
             try clear c4
             try clear c6
             try clear p6
             try clear c11
             try clear c11b0
             try clear p11
             try clear q11
             try clear hx11
             try clear c12
             try clear c12b0
             try clear c13
             try clear c13b0
             try clear p13
             try clear q13
             try clear hx13
             try clear c15
             try clear c15b0
             try clear c16
             try clear c16b0
             try clear c18
             try clear c24
             try clear c30
             try clear c31
             try clear c35
             try clear c35b0
             try clear c36
             try clear c36b0
             try clear c38
             try clear c40
             try clear c43
             try clear hcz19_0
             try clear hcz19_1
             try clear hcz25_0
             try clear hcz25_1
             try clear hcz31_0
             try clear hcz31_1
             try clear hcz41_0
             try clear hcz41_1
             try clear hcz44_0
             try clear hcz44_1
             try clear hcz7_0
             try clear hcz7_1
             try clear hfz19_0
             try clear hfz19_1
             try clear hfz25_0
             try clear hfz25_1
             try clear hfz31_0
             try clear hfz31_1
             try clear hfz41_0
             try clear hfz41_1
             try clear hfz44_0
             try clear hfz44_1
             try clear hfz7_0
             try clear hfz7_1
             try clear hx111_0
             try clear hx112_0
             try clear hx131_0
             try clear hx131_1
             try clear p1
             try clear p11
             try clear p111
             try clear p112
             try clear p131
             try clear p2
             try clear p6
             try clear q1
             try clear q11
             try clear q111
             try clear q112
             try clear q131
             obtain ⟨x3_3, x8_3, rfl, HA, HK3, HO_3, BK101, BK132, HB⟩ := hrel
             cases gk with
             | zero => exact absurd HA.out (by simp [ferruleref23_Bytes.l2])
             | succ k3 =>
              have H := HA.out
              clear HA
              simp only [ferruleref23_Bytes.l2] at H
              by_cases c53 : x8_3 < (((rd_T95 l0_1 x6_2).f1).length : Int)
              ·rw [if_pos c53] at H
               have c53b0 : decide (x8_3 < (((rd_T95 l0_1 x6_2).f1).length : Int)) = true := decide_eq_true c53
               clear c53
               by_cases c54 : 0 ≤ x8_3
               ·rw [if_pos c54] at H
                have c54b0 : decide (0 ≤ x8_3) = true := decide_eq_true c54
                clear c54
                by_cases c55 : (wrap64 (2 * (rd ((rd_T95 l0_1 x6_2).f1) x8_3))) < 0
                ·rw [if_pos c55] at H
                 have c55b0 : decide ((wrap64 (2 * (rd ((rd_T95 l0_1 x6_2).f1) x8_3))) < 0) = true := decide_eq_true c55
                 clear c55
                 replace H := Option.bind_eq_some_iff.mp H
                 obtain ⟨t146, A560, H⟩ := H
                 replace H : (if x3_3.length + t146.length < 140737488355328 then (ferruleref23_Bytes.l2 k3 (x3_3 ++ t146) x6_2 (wrap64 (x8_3 + 1)) l0_0 l0_1 ((rd_T95 l0_1 x6_2).f0) ((rd_T95 l0_1 x6_2).f1)) else (none)) = some r := H
                 have A56 := Aside0.mk A560
                 clear A560
                 by_cases c57 : x3_3.length + t146.length < 140737488355328
                 ·rw [if_pos c57] at H
                  have LMc57 := Aside0.mk c57
                  clear c57
                  obtain ⟨y149, hy149⟩ : ∃ y_ : List Int, y_ = (x3_3 ++ t146) := ⟨_, rfl⟩
                  replace H : (ferruleref23_Bytes.l2 k3 y149 x6_2 (wrap64 (x8_3 + 1)) l0_0 l0_1 ((rd_T95 l0_1 x6_2).f0) ((rd_T95 l0_1 x6_2).f1)) = some r := by first | (rw [hy149]; with_reducible exact H) | (have H2_ := (Option.bind_some _ _).symm.trans H; rw [hy149]; with_reducible exact H2_) | (have H2_ := (Option.bind_some _ _).symm.trans H; with_reducible exact H2_) | with_reducible exact H | (rw [hy149]; exact H) | exact H
                  have Ny149 := Aside0.mk hy149
                  clear hy149
                  have H' := Aside0.mk H
                  clear H
                  have hnb58 := NB132_101.out
                  have hnc58 := NB101_132.out
                  have hcz59_0 : wr.cell? ⟨gb132, 0, none⟩ = some (.int .i64 ((rd_T95 l0_1 x6_2).f0)) := (blk_cell BK132.out 0).trans rfl
                  have hcz59_1 : wr.cell? ⟨gb132, 1, none⟩ = some (.slice A131_1 ((rd_T95 l0_1 x6_2).f1).length c131_1) := (blk_cell BK132.out 1).trans rfl
                  have hfz59_0 := blk_frozen BK132.out 0
                  have hfz59_1 := blk_frozen BK132.out 1
                  have p145 : 0 ≤ (x8_3 : Int) := oD
                  have q145 : x8_3 < (((rd_T95 l0_1 x6_2).f1).length : Int) := oD
                  obtain ⟨ad145, e145, hx145_0⟩ := Kd.at_int HR131_1.out x8_3 p145 q145
                  cases e145
                  replace hx145_0 := (HB.out.cell (World.block_lt_of_cell? w _ hx145_0)).trans hx145_0
                  replace p145 := eq_true p145
                  replace q145 := eq_true q145
                  go_wp2_with (first | ((with_reducible refine gate_callee (f := 69) rfl ?_); refine goesL_ (some 96) rfl rfl Try.func69 (by kernel_rfl) rfl #[.int .u32 ((wrap64 (1 - (wrap64 (2 * (rd ((rd_T95 l0_1 x6_2).f1) x8_3))))) % 4294967296)] rfl bM ?_; (with_reducible refine (ferruleref23_Put.calls k3 ((wrap64 (1 - (wrap64 (2 * (rd ((rd_T95 l0_1 x6_2).f1) x8_3))))) % 4294967296) t146 _ A56.out).mono ?_); rintro e w60 ⟨v147, rfl, ho0, hb⟩; refine ⟨_, rfl, ?_⟩; have HO148 := aN ho0 HO_3 HB; replace HO_3 := aE HO_3 ho0 hb; replace BK101 := aK BK101 hb; replace BK132 := aK BK132 hb; replace HB := aB HB hb; (try clear hb); (try clear hb2); (try clear hk); (try clear hi); (try clear ho0); obtain ⟨Ao62, co62, eo62⟩ := Kd.R_slice HO148.out; subst eo62) | ((with_reducible refine gate_builtin (b := .append) (xs := #[.tmp 93, .tmp 96]) rfl ?_); at_builtin; refine Kd.R_append_rows (Kd.int .u8) (w0 := w) w.heap.size rfl (.tmp 93) (.tmp 96) 22 5 (.int .u8 0) 1 rfl Try.underlying22 info5 rfl (by decide) (by omega) u3 x3_3 t146 _ _ _ (fun k_ => some k_ ≠ ob Ao62 t146 co62) (fun _ => False) rfl rfl ?aO ?aR (fun _ _ h => h) (fun _ h => h.elim) ?aF ?aB ?aS ?aL ?_; (case aR => exact sW (Kd.R_reads' HO148.out).2.2); (case aB => exact bB); (case aF => exact (fun k_ hk => Kd.fresh' (Kd.R_lt (aRw HO148)) k_ hk)); (case aO => exact (by (with_reducible repeat (first | apply Kd.R_alloc | apply Kd.R_drewN | apply Kd.R_drew)); exact Kd.R_mono HO_3.out (fun _ hk => hk.2))); (case aS => exact (below_size bB)); (case aL => have := LMc57.out; omega); intro v150 w61 ho hb hg hat; rw [← Ny149.out] at ho; replace BK101 := Aside0.mk (blk_grown (g := gb101) (o := .cells #[.slice A0_0 l0_0.length c0_0, .slice (some ad131) l0_1.length c0_1] 52 (0, 0)) (aKw BK101) hg (Kd.R_ne HO_3.out BK101.out (by decide))); replace BK132 := Aside0.mk (blk_grown (g := gb132) (o := .cells #[.int .i64 ((rd_T95 l0_1 x6_2).f0), .slice (some ad145) ((rd_T95 l0_1 x6_2).f1).length c131_1] 95 (0, 0)) (aKw BK132) hg (Kd.R_ne HO_3.out BK132.out (by decide))); replace HO148 := Aside0.mk (Kd.R_after (ok := (fun _ => True)) (aRw HO148) hg hat); replace HB := Aside0.mk hb; have HO151 := Aside0.mk ho; clear HO_3; clear ho hb hg hat))
                  go_roundg k3
                  case measure => have := HK1.out; have := HK2.out; have := HK3.out; omega
                  case rel => exact ⟨(y149), (wrap64 (x8_3 + 1)), bS, H', ⟨by have := HK1.out; have := HK2.out; have := HK3.out; omega⟩, ⟨by (with_reducible repeat (first | apply Kd.R_alloc | apply Kd.R_drewN | apply Kd.R_drew)); exact Kd.R_mono HO151.out (fun _ hk => trivial)⟩, ⟨aKw BK101⟩, ⟨aKw BK132⟩, ⟨bB⟩⟩
                 ·rw [if_neg c57] at H
                  exact absurd H (by simp)
                ·rw [if_neg c55] at H
                 have c55b0 : decide ((wrap64 (2 * (rd ((rd_T95 l0_1 x6_2).f1) x8_3))) < 0) = false := decide_eq_false c55
                 clear c55
                 replace H := Option.bind_eq_some_iff.mp H
                 obtain ⟨t152, A630, H⟩ := H
                 replace H : (if x3_3.length + t152.length < 140737488355328 then (ferruleref23_Bytes.l2 k3 (x3_3 ++ t152) x6_2 (wrap64 (x8_3 + 1)) l0_0 l0_1 ((rd_T95 l0_1 x6_2).f0) ((rd_T95 l0_1 x6_2).f1)) else (none)) = some r := H
                 have A63 := Aside0.mk A630
                 clear A630
                 by_cases c64 : x3_3.length + t152.length < 140737488355328
                 ·rw [if_pos c64] at H
                  have LMc64 := Aside0.mk c64
                  clear c64
                  obtain ⟨y155, hy155⟩ : ∃ y_ : List Int, y_ = (x3_3 ++ t152) := ⟨_, rfl⟩
                  replace H : (ferruleref23_Bytes.l2 k3 y155 x6_2 (wrap64 (x8_3 + 1)) l0_0 l0_1 ((rd_T95 l0_1 x6_2).f0) ((rd_T95 l0_1 x6_2).f1)) = some r := by first | (rw [hy155]; with_reducible exact H) | (have H2_ := (Option.bind_some _ _).symm.trans H; rw [hy155]; with_reducible exact H2_) | (have H2_ := (Option.bind_some _ _).symm.trans H; with_reducible exact H2_) | with_reducible exact H | (rw [hy155]; exact H) | exact H
                  have Ny155 := Aside0.mk hy155
                  clear hy155
                  have H' := Aside0.mk H
                  clear H
                  have hnb65 := NB132_101.out
                  have hnc65 := NB101_132.out
                  have hcz66_0 : wr.cell? ⟨gb132, 0, none⟩ = some (.int .i64 ((rd_T95 l0_1 x6_2).f0)) := (blk_cell BK132.out 0).trans rfl
                  have hcz66_1 : wr.cell? ⟨gb132, 1, none⟩ = some (.slice A131_1 ((rd_T95 l0_1 x6_2).f1).length c131_1) := (blk_cell BK132.out 1).trans rfl
                  have hfz66_0 := blk_frozen BK132.out 0
                  have hfz66_1 := blk_frozen BK132.out 1
                  have p145 : 0 ≤ (x8_3 : Int) := oD
                  have q145 : x8_3 < (((rd_T95 l0_1 x6_2).f1).length : Int) := oD
                  obtain ⟨ad145, e145, hx145_0⟩ := Kd.at_int HR131_1.out x8_3 p145 q145
                  cases e145
                  replace hx145_0 := (HB.out.cell (World.block_lt_of_cell? w _ hx145_0)).trans hx145_0
                  replace p145 := eq_true p145
                  replace q145 := eq_true q145
                  go_wp2_with (first | ((with_reducible refine gate_callee (f := 69) rfl ?_); refine goesL_ (some 96) rfl rfl Try.func69 (by kernel_rfl) rfl #[.int .u32 ((wrap64 (2 * (rd ((rd_T95 l0_1 x6_2).f1) x8_3))) % 4294967296)] rfl bM ?_; (with_reducible refine (ferruleref23_Put.calls k3 ((wrap64 (2 * (rd ((rd_T95 l0_1 x6_2).f1) x8_3))) % 4294967296) t152 _ A63.out).mono ?_); rintro e w67 ⟨v153, rfl, ho0, hb⟩; refine ⟨_, rfl, ?_⟩; have HO154 := aN ho0 HO_3 HB; replace HO_3 := aE HO_3 ho0 hb; replace BK101 := aK BK101 hb; replace BK132 := aK BK132 hb; replace HB := aB HB hb; (try clear hb); (try clear hb2); (try clear hk); (try clear hi); (try clear ho0); obtain ⟨Ao69, co69, eo69⟩ := Kd.R_slice HO154.out; subst eo69) | ((with_reducible refine gate_builtin (b := .append) (xs := #[.tmp 93, .tmp 96]) rfl ?_); at_builtin; refine Kd.R_append_rows (Kd.int .u8) (w0 := w) w.heap.size rfl (.tmp 93) (.tmp 96) 22 5 (.int .u8 0) 1 rfl Try.underlying22 info5 rfl (by decide) (by omega) u3 x3_3 t152 _ _ _ (fun k_ => some k_ ≠ ob Ao69 t152 co69) (fun _ => False) rfl rfl ?aO ?aR (fun _ _ h => h) (fun _ h => h.elim) ?aF ?aB ?aS ?aL ?_; (case aR => exact sW (Kd.R_reads' HO154.out).2.2); (case aB => exact bB); (case aF => exact (fun k_ hk => Kd.fresh' (Kd.R_lt (aRw HO154)) k_ hk)); (case aO => exact (by (with_reducible repeat (first | apply Kd.R_alloc | apply Kd.R_drewN | apply Kd.R_drew)); exact Kd.R_mono HO_3.out (fun _ hk => hk.2))); (case aS => exact (below_size bB)); (case aL => have := LMc64.out; omega); intro v156 w68 ho hb hg hat; rw [← Ny155.out] at ho; replace BK101 := Aside0.mk (blk_grown (g := gb101) (o := .cells #[.slice A0_0 l0_0.length c0_0, .slice (some ad131) l0_1.length c0_1] 52 (0, 0)) (aKw BK101) hg (Kd.R_ne HO_3.out BK101.out (by decide))); replace BK132 := Aside0.mk (blk_grown (g := gb132) (o := .cells #[.int .i64 ((rd_T95 l0_1 x6_2).f0), .slice (some ad145) ((rd_T95 l0_1 x6_2).f1).length c131_1] 95 (0, 0)) (aKw BK132) hg (Kd.R_ne HO_3.out BK132.out (by decide))); replace HO154 := Aside0.mk (Kd.R_after (ok := (fun _ => True)) (aRw HO154) hg hat); replace HB := Aside0.mk hb; have HO157 := Aside0.mk ho; clear HO_3; clear ho hb hg hat))
                  go_roundg k3
                  case measure => have := HK1.out; have := HK2.out; have := HK3.out; omega
                  case rel => exact ⟨(y155), (wrap64 (x8_3 + 1)), bS, H', ⟨by have := HK1.out; have := HK2.out; have := HK3.out; omega⟩, ⟨by (with_reducible repeat (first | apply Kd.R_alloc | apply Kd.R_drewN | apply Kd.R_drew)); exact Kd.R_mono HO157.out (fun _ hk => trivial)⟩, ⟨aKw BK101⟩, ⟨aKw BK132⟩, ⟨bB⟩⟩
                 ·rw [if_neg c64] at H
                  exact absurd H (by simp)
               ·rw [if_neg c54] at H
                exact absurd H (by simp)
              ·rw [if_neg c53] at H
               have c53b0 : decide (x8_3 < (((rd_T95 l0_1 x6_2).f1).length : Int)) = false := decide_eq_false c53
               clear c53
               have H' := Aside0.mk H
               clear H
               have hnb70 := NB132_101.out
               have hnc70 := NB101_132.out
               have hcz71_0 : wr.cell? ⟨gb132, 0, none⟩ = some (.int .i64 ((rd_T95 l0_1 x6_2).f0)) := (blk_cell BK132.out 0).trans rfl
               have hcz71_1 : wr.cell? ⟨gb132, 1, none⟩ = some (.slice A131_1 ((rd_T95 l0_1 x6_2).f1).length c131_1) := (blk_cell BK132.out 1).trans rfl
               have hfz71_0 := blk_frozen BK132.out 0
               have hfz71_1 := blk_frozen BK132.out 1
               go_wp2
               go_roundg k3
               case measure => have := HK1.out; have := HK2.out; have := HK3.out; omega
               case rel => exact ⟨(x3_3), (wrap64 (x6_2 + 1)), bS, H', ⟨by have := HK1.out; have := HK2.out; have := HK3.out; omega⟩, ⟨aRw HO_3⟩, ⟨aKw BK101⟩, ⟨bB⟩⟩
           ·rw [if_neg c40] at H
            exact absurd H (by simp)
          ·rw [if_neg c38] at H
           exact absurd H (by simp)
         ·rw [if_neg c36] at H
          exact absurd H (by simp)
        ·rw [if_neg c35] at H
         have c35b0 : decide (x6_2 < (l0_1.length : Int)) = false := decide_eq_false c35
         clear c35
         obtain rfl := Option.some.inj H
         have hcz72_0 : wr.cell? ⟨gb101, 0, none⟩ = some (.slice A0_0 l0_0.length c0_0) := (blk_cell BK101.out 0).trans rfl
         have hcz72_1 : wr.cell? ⟨gb101, 1, none⟩ = some (.slice A0_1 l0_1.length c0_1) := (blk_cell BK101.out 1).trans rfl
         have hfz72_0 := blk_frozen BK101.out 0
         have hfz72_1 := blk_frozen BK101.out 1
         go_wp2
         go_ret
         exact ⟨_, by first | rfl | (simp [errW_none, errW_some] <;> rfl) | (simp [*, errW_none, errW_some] <;> rfl), aRw HO_3, bB⟩
     ·rw [if_neg c30] at H
      exact absurd H (by simp)
 ·rw [if_neg c3] at H
  exact absurd H (by simp)

end Go.Proofs.Ytcebjhbphcoboaa.C
