-- Written by a program of this session (wip/xp), out of the translation. Not trusted: Lean checks it.
import Derived.Test.YtildmfegfkiknaaDoorX0
import Derived.Test.YtildmfegfkiknaaDoorXn33
-- shrunk
namespace Go.Proofs.YtildmfegfkiknaaDoor.X
open Go.RowKit Go.Proofs.YtildmfegfkiknaaDoorW.PrintWords Go.Proofs.YtildmfegfkiknaaDoorW.PrintLast Go.Proofs.YtildmfegfkiknaaDoorW.PrintMore
attribute [local go_sem] Lab.str_gtr Lab.str_leq Lab.str_geq max2_int min2_int max_two min_two max_three min_three max_four min_four   -- for this text's walks alone
set_option linter.unusedVariables false
set_option linter.unusedSimpArgs false

/-! ### semver_Read: function 35 -/
def semver_Read.j0 : Nat → Int → Int → Bool → Int → Int → Int → List ByteArray → List ByteArray → Option (Int × Int × Int × List ByteArray × List ByteArray × Int × Int)
 | 0, _, _, _, _, _, _, _, _ => none
 | k + 1, x3, x4, x19, x102000, x102001, x102002, x102003, x102004 => if x19 = true then (some (0, 0, 0, ([] : List ByteArray), ([] : List ByteArray), x3, 13)) else (if x4 = 0 then (some (x102000, x102001, x102002, x102003, x102004, 0, x4)) else (some (x102000, x102001, x102002, x102003, x102004, x3, x4)))
def semver_Read.f (k : Nat) (a0 : ByteArray) : Option (Int × Int × Int × List ByteArray × List ByteArray × Int × Int) := if a0.size ≤ 9223372036854775807 then ((semver_Parse.f k (bytesOf a0) 0).bind fun bt104 => (if bt104.2.2.2.2.2.2 = 0 then (semver_Read.j0 k bt104.2.2.2.2.2.1 bt104.2.2.2.2.2.2 (decide (bt104.2.2.2.2.2.1 < (a0.size : Int))) bt104.1 bt104.2.1 bt104.2.2.1 bt104.2.2.2.1 bt104.2.2.2.2.1) else (semver_Read.j0 k bt104.2.2.2.2.2.1 bt104.2.2.2.2.2.2 false bt104.1 bt104.2.1 bt104.2.2.1 bt104.2.2.2.1 bt104.2.2.2.2.1))) else (none)
theorem semver_Read.mono_l : ∀ k, (∀ y0 y1 y2 y3 y4 y5 y6 y7, LeO (semver_Read.j0 k y0 y1 y2 y3 y4 y5 y6 y7) (semver_Read.j0 (k + 1) y0 y1 y2 y3 y4 y5 y6 y7))
 | 0 => fun _ _ _ _ _ _ _ _ r h => by simp [semver_Read.j0] at h
 | k + 1 => by
  have ih0 := semver_Read.mono_l k
  ·intro y0 y1 y2 y3 y4 y5 y6 y7
   unfold semver_Read.j0
   repeat' first
   | (with_reducible exact ih0 _ _ _ _ _ _ _ _)
   | (with_reducible exact semver_Parse.mono _ _ _)
   | (with_reducible exact LeO.refl _)
   | (with_reducible exact LeO.none _)
   | (with_reducible refine LeO.ite ?_ ?_)
   | (with_reducible refine LeO.bind ?_ (fun _ => ?_))
   | exact ih0 _ _ _ _ _ _ _ _
   | exact semver_Parse.mono _ _ _
   | exact LeO.none _
   | refine LeO.ite ?_ ?_
   | refine LeO.bind ?_ (fun _ => ?_)
theorem semver_Read.mono : ∀ a0 k, LeO (semver_Read.f k a0) (semver_Read.f (k + 1) a0) := by
 intro a0 k
 have ih0 := semver_Read.mono_l k
 unfold semver_Read.f
 repeat' first
   | (with_reducible exact ih0 _ _ _ _ _ _ _ _)
   | (with_reducible exact semver_Parse.mono _ _ _)
   | (with_reducible exact LeO.refl _)
   | (with_reducible exact LeO.none _)
   | (with_reducible refine LeO.ite ?_ ?_)
   | (with_reducible refine LeO.bind ?_ (fun _ => ?_))
   | exact ih0 _ _ _ _ _ _ _ _
   | exact semver_Parse.mono _ _ _
   | exact LeO.none _
   | refine LeO.ite ?_ ?_
   | refine LeO.bind ?_ (fun _ => ?_)
set_option maxHeartbeats 8000000 in
set_option maxRecDepth 100000 in
theorem semver_Read.calls (k : Nat) (a0 : ByteArray) (r1 : Int) (r2 : Int) (r3 : Int) (r4 : List ByteArray) (r5 : List ByteArray) (r6 : Int) (r7 : Int) (w : World) (h : semver_Read.f k a0 = some (r1, r2, r3, r4, r5, r6, r7)) :
  Calls Tryd.prog 35 #[.string a0] w fun e w' => ∃ v3_ v4_ : Value, e = .returned (.tuple #[.agg #[.int .u64 r1, .int .u64 r2, .int .u64 r3, v3_, v4_], .int .i64 r6, .int .i64 r7]) ∧ Kd.R Kd.string 9 w' w.heap.size (fun k_ => some k_ ≠ (v4_ : Value).ownBlock) v3_ r4 ∧ Kd.R Kd.string 9 w' w.heap.size (fun k_ => some k_ ≠ (v3_ : Value).ownBlock) v4_ r5 ∧ Below w.heap.size w w' := by
 have hu40 := Tryd.underlying40
 have HB := Aside0.mk (Below.refl w.heap.size w)
 have H : (if a0.size ≤ 9223372036854775807 then ((semver_Parse.f k (bytesOf a0) 0).bind fun bt104 => (if bt104.2.2.2.2.2.2 = 0 then (semver_Read.j0 k bt104.2.2.2.2.2.1 bt104.2.2.2.2.2.2 (decide (bt104.2.2.2.2.2.1 < (a0.size : Int))) bt104.1 bt104.2.1 bt104.2.2.1 bt104.2.2.2.1 bt104.2.2.2.2.1) else (semver_Read.j0 k bt104.2.2.2.2.2.1 bt104.2.2.2.2.2.2 false bt104.1 bt104.2.1 bt104.2.2.1 bt104.2.2.2.1 bt104.2.2.2.2.1))) else (none)) = some (r1, r2, r3, r4, r5, r6, r7) := h
 clear h
 by_cases c2 : a0.size ≤ 9223372036854775807
 ·rw [if_pos c2] at H
  have c2b0 := eq_true c2
  have c2b1 : decide (a0.size ≤ 9223372036854775807) = true := decide_eq_true c2
  try have c2b2 : (9223372036854775807 < a0.size) = False := eq_false (Nat.not_lt.2 c2)
  clear c2
  obtain ⟨y102, hy102⟩ : ∃ y_ : List Int, y_ = (bytesOf a0) := ⟨_, rfl⟩
  replace H : ((semver_Parse.f k y102 0).bind fun bt104 => (if bt104.2.2.2.2.2.2 = 0 then (semver_Read.j0 k bt104.2.2.2.2.2.1 bt104.2.2.2.2.2.2 (decide (bt104.2.2.2.2.2.1 < (a0.size : Int))) bt104.1 bt104.2.1 bt104.2.2.1 bt104.2.2.2.1 bt104.2.2.2.2.1) else (semver_Read.j0 k bt104.2.2.2.2.2.1 bt104.2.2.2.2.2.2 false bt104.1 bt104.2.1 bt104.2.2.1 bt104.2.2.2.1 bt104.2.2.2.2.1))) = some (r1, r2, r3, r4, r5, r6, r7) := by first | (rw [hy102]; with_reducible exact H) | (have H2_ := (Option.bind_some _ _).symm.trans H; rw [hy102]; with_reducible exact H2_) | (have H2_ := (Option.bind_some _ _).symm.trans H; with_reducible exact H2_) | with_reducible exact H | (rw [hy102]; exact H) | exact H
  have Ny102 := Aside0.mk hy102
  clear hy102
  replace H := Option.bind_eq_some_iff.mp H
  obtain ⟨⟨t104, t105, t106, t107, t110, t113, t114⟩, A30, H⟩ := H
  replace H : (if t114 = 0 then (semver_Read.j0 k t113 t114 (decide (t113 < (a0.size : Int))) t104 t105 t106 t107 t110) else (semver_Read.j0 k t113 t114 false t104 t105 t106 t107 t110)) = some (r1, r2, r3, r4, r5, r6, r7) := H
  have A3 := Aside0.mk A30
  clear A30
  have HC4 := Aside0.mk H
  clear H
  go_enter Tryd.func35, Tryd.ntmps35
  go_upto_region 2 with (first | ((with_reducible refine gate_dst (N := 2) rfl ?_); (try (refine gate_guard (by rfl) ?_; dsimp only)); refine box_event ?hg (N := 2) ?hd (cs := #[.int .u64 0, .int .u64 0, .int .u64 0, .slice none 0 0, .slice none 0 0]) (t := 40) ?hr ?_; (case hd => rfl); (case hg => rfl); (case hr => first | (go_simp; done) | (go_simp; rfl)); intro gb101 hg w5 hbox hb; have BK101 := Aside0.mk hbox; have GW101 := Aside0.mk ((by rw [hg]; exact (below_size bB) : w.heap.size ≤ gb101)); have GE101 := Aside0.mk ((by rw [hg]; exact (below_size bB) : w.heap.size ≤ gb101)); replace HB := aB HB hb; clear hb hbox hg) | ((with_reducible refine gate_dst (N := 7) rfl ?_); (try (refine gate_guard (by rfl) ?_; dsimp only)); refine Lab.bytes_event (N := 7) (s := a0) (x := .tmp 6) ?hg ?hd ?ho ?hx Tryd.underlying9 Tryd.underlying22 Tryd.underlying5 ?hz ?_; (case hd => rfl); (case hg => rfl); (case ho => rfl); (case hx => first | rfl | (simp; done)); (case hz => first | exact oD | (simp; done) | (rw [ByteArray.size_append]; first | assumption | exact of_decide_eq_true (by assumption))); intro Az103 cz103 w6 hC_ hR_ hb; rw [← Ny102.out] at hC_ hR_; (try rw [← Ny102.out]); replace BK101 := aK BK101 hb; replace HB := aB HB hb; have HR103 := Aside0.mk hC_; have HC103 := Aside0.mk hR_; (try clear hb); (try clear hC_); (try clear hR_)) | ((with_reducible refine gate_callee (f := 33) rfl ?_); refine goesL_ (some 8) rfl rfl Tryd.func33 (by kernel_rfl) rfl #[.slice Az103 y102.length cz103, .int .i64 0] rfl bM ?_; (with_reducible refine (semver_Parse.calls k _ _ y102 0 t104 t105 t106 t107 t110 t113 t114 _ ?side1 ?side2 A3.out).mono ?_); (case side1 => exact aCw HR103); (case side2 => exact HC103.out); rintro e w7 ⟨v108, v111, rfl, ho0, ho1, hb⟩; refine ⟨_, rfl, ?_⟩; have HO109 := aL ho0 HB; have HO112 := aL ho1 HB; replace BK101 := aK BK101 hb; replace HR103 := aC HR103 hb; replace HB := aB HB hb; (try clear hb); (try clear hb2); (try clear hk); (try clear hi); (try clear ho0); (try clear ho1); have hcz8_0 : w7.cell? ⟨gb101, 0, none⟩ = some (.int .u64 0) := (blk_cell BK101.out 0).trans rfl; have hcz8_1 : w7.cell? ⟨gb101, 1, none⟩ = some (.int .u64 0) := (blk_cell BK101.out 1).trans rfl; have hcz8_2 : w7.cell? ⟨gb101, 2, none⟩ = some (.int .u64 0) := (blk_cell BK101.out 2).trans rfl; have hcz8_3 : w7.cell? ⟨gb101, 3, none⟩ = some (.slice none 0 0) := (blk_cell BK101.out 3).trans rfl; have hcz8_4 : w7.cell? ⟨gb101, 4, none⟩ = some (.slice none 0 0) := (blk_cell BK101.out 4).trans rfl; have hfz8_0 := blk_frozen BK101.out 0; have hfz8_1 := blk_frozen BK101.out 1; have hfz8_2 := blk_frozen BK101.out 2; have hfz8_3 := blk_frozen BK101.out 3; have hfz8_4 := blk_frozen BK101.out 4; obtain ⟨Ao9, co9, eo9⟩ := Kd.R_slice HO109.out; subst eo9; obtain ⟨Ao10, co10, eo10⟩ := Kd.R_slice HO112.out; subst eo10))
  (try simp only [Act.put, List.setIfInBounds_toArray, List.set_cons_zero, List.set_cons_succ])
  go_cut [19] (fun v19 wc => ∃ (kq : Nat) (x19_3 : Bool), v19 = .bool x19_3 ∧ Aside0 (semver_Read.j0 kq t113 t114 x19_3 t104 t105 t106 t107 t110 = some (r1, r2, r3, r4, r5, r6, r7)) ∧ Aside0 (kq ≤ k) ∧ Aside0 (Kd.R Kd.string 9 wc w.heap.size (fun k_ => some k_ ≠ ob Ao10 t110 co10) (.slice Ao9 t107.length co9) t107) ∧ Aside0 (Kd.R Kd.string 9 wc w.heap.size (fun k_ => some k_ ≠ ob Ao9 t107 co9) (.slice Ao10 t110.length co10) t110) ∧ Aside0 (wc.heap[gb101]? = some (.cells #[.int .u64 t104, .int .u64 t105, .int .u64 t106, (.slice Ao9 t107.length co9), (.slice Ao10 t110.length co10)] 40 (0, 0))) ∧ Aside0 (Below w.heap.size w wc))
  case first =>
   have H := HC4.out
   clear HC4
   by_cases c11 : t114 = 0
   ·rw [if_pos c11] at H
    have c11b0 : (t114 == 0) = true := beq_iff_eq.mpr c11
    have c11b1 : (t114 != 0) = false := bne_eq_false_iff_eq.mpr c11
    clear c11
    (first | rw [c11b0] | (simp only [i64_w, i32_w]; rw [c11b0]) | skip)
    have H' := Aside0.mk H
    clear H
    go_wp2
    go_meet
    case rel => exact ⟨_, (decide (t113 < (a0.size : Int))), bS, H', ⟨by first | omega | exact Nat.le_refl _⟩, ⟨by (with_reducible repeat (first | apply Kd.R_alloc | apply Kd.R_drewN | apply Kd.R_drew)); exact Kd.R_mono (aG HO109 BK101) (fun _ hk => hk.1)⟩, ⟨by (with_reducible repeat (first | apply Kd.R_alloc | apply Kd.R_drewN | apply Kd.R_drew)); exact Kd.R_mono (aG HO112 BK101) (fun _ hk => hk.1)⟩, ⟨by (with_reducible repeat (first | refine blk_drewN ?_ _ | refine blk_drew ?_ | refine blk_alloc ?_ _)); refine blk_put (cs := #[.int .u64 t104, .int .u64 t105, .int .u64 t106, .slice Ao9 t107.length co9, .slice none 0 0]) ?_ 4 _ rfl; (with_reducible repeat (first | refine blk_drewN ?_ _ | refine blk_drew ?_ | refine blk_alloc ?_ _)); refine blk_put (cs := #[.int .u64 t104, .int .u64 t105, .int .u64 t106, .slice none 0 0, .slice none 0 0]) ?_ 3 _ rfl; (with_reducible repeat (first | refine blk_drewN ?_ _ | refine blk_drew ?_ | refine blk_alloc ?_ _)); refine blk_put (cs := #[.int .u64 t104, .int .u64 t105, .int .u64 0, .slice none 0 0, .slice none 0 0]) ?_ 2 _ rfl; (with_reducible repeat (first | refine blk_drewN ?_ _ | refine blk_drew ?_ | refine blk_alloc ?_ _)); refine blk_put (cs := #[.int .u64 t104, .int .u64 0, .int .u64 0, .slice none 0 0, .slice none 0 0]) ?_ 1 _ rfl; (with_reducible repeat (first | refine blk_drewN ?_ _ | refine blk_drew ?_ | refine blk_alloc ?_ _)); refine blk_put (cs := #[.int .u64 0, .int .u64 0, .int .u64 0, .slice none 0 0, .slice none 0 0]) ?_ 0 _ rfl; (with_reducible repeat (first | refine blk_drewN ?_ _ | refine blk_drew ?_ | refine blk_alloc ?_ _)); exact BK101.out⟩, ⟨bB⟩⟩
   ·rw [if_neg c11] at H
    have c11b0 : (t114 == 0) = false := beq_eq_false_iff_ne.mpr c11
    have c11b1 : (t114 != 0) = true := bne_iff_ne.mpr c11
    (first | rw [c11b0] | (simp only [i64_w, i32_w]; rw [c11b0]) | skip)
    have H' := Aside0.mk H
    clear H
    go_wp2
    go_meet
    case rel => exact ⟨_, (false), bS, H', ⟨by first | omega | exact Nat.le_refl _⟩, ⟨by (with_reducible repeat (first | apply Kd.R_alloc | apply Kd.R_drewN | apply Kd.R_drew)); exact Kd.R_mono (aG HO109 BK101) (fun _ hk => hk.1)⟩, ⟨by (with_reducible repeat (first | apply Kd.R_alloc | apply Kd.R_drewN | apply Kd.R_drew)); exact Kd.R_mono (aG HO112 BK101) (fun _ hk => hk.1)⟩, ⟨by (with_reducible repeat (first | refine blk_drewN ?_ _ | refine blk_drew ?_ | refine blk_alloc ?_ _)); refine blk_put (cs := #[.int .u64 t104, .int .u64 t105, .int .u64 t106, .slice Ao9 t107.length co9, .slice none 0 0]) ?_ 4 _ rfl; (with_reducible repeat (first | refine blk_drewN ?_ _ | refine blk_drew ?_ | refine blk_alloc ?_ _)); refine blk_put (cs := #[.int .u64 t104, .int .u64 t105, .int .u64 t106, .slice none 0 0, .slice none 0 0]) ?_ 3 _ rfl; (with_reducible repeat (first | refine blk_drewN ?_ _ | refine blk_drew ?_ | refine blk_alloc ?_ _)); refine blk_put (cs := #[.int .u64 t104, .int .u64 t105, .int .u64 0, .slice none 0 0, .slice none 0 0]) ?_ 2 _ rfl; (with_reducible repeat (first | refine blk_drewN ?_ _ | refine blk_drew ?_ | refine blk_alloc ?_ _)); refine blk_put (cs := #[.int .u64 t104, .int .u64 0, .int .u64 0, .slice none 0 0, .slice none 0 0]) ?_ 1 _ rfl; (with_reducible repeat (first | refine blk_drewN ?_ _ | refine blk_drew ?_ | refine blk_alloc ?_ _)); refine blk_put (cs := #[.int .u64 0, .int .u64 0, .int .u64 0, .slice none 0 0, .slice none 0 0]) ?_ 0 _ rfl; (with_reducible repeat (first | refine blk_drewN ?_ _ | refine blk_drew ?_ | refine blk_alloc ?_ _)); exact BK101.out⟩, ⟨bB⟩⟩
  case rest =>
   clear HC4
   try clear c1
   try clear c2
   try clear c2b0
   try clear c2b1
   try clear c2b2
   try clear p2
   try clear c3
   try clear p6
   try clear c11
   try clear c11b0
   try clear c11b1
   try clear hcz8_0
   try clear hcz8_1
   try clear hcz8_2
   try clear hcz8_3
   try clear hcz8_4
   try clear hfz8_0
   try clear hfz8_1
   try clear hfz8_2
   try clear hfz8_3
   try clear hfz8_4
   obtain ⟨kq, x19_3, rfl, HA, HJ3, HO_102003, HO_102004, BK101, HB⟩ := hcut
   cases kq with
   | zero => exact absurd HA.out (by simp [semver_Read.j0])
   | succ kj3 =>
    have H := HA.out
    clear HA
    simp only [semver_Read.j0] at H
    by_cases c12 : x19_3 = true
    ·subst c12
     have H1 : (some (0, 0, 0, ([] : List ByteArray), ([] : List ByteArray), t113, 13)) = some (r1, r2, r3, r4, r5, r6, r7) := by rw [if_pos rfl] at H; exact H
     clear H
     have H := H1
     clear H1
     simp only [Option.some.injEq, Prod.mk.injEq] at H
     obtain ⟨rfl, rfl, rfl, rfl, rfl, rfl, rfl⟩ := H
     have hcz13_0 : wc.cell? ⟨gb101, 0, none⟩ = some (.int .u64 t104) := (blk_cell BK101.out 0).trans rfl
     have hcz13_1 : wc.cell? ⟨gb101, 1, none⟩ = some (.int .u64 t105) := (blk_cell BK101.out 1).trans rfl
     have hcz13_2 : wc.cell? ⟨gb101, 2, none⟩ = some (.int .u64 t106) := (blk_cell BK101.out 2).trans rfl
     have hcz13_3 : wc.cell? ⟨gb101, 3, none⟩ = some (.slice Ao9 t107.length co9) := (blk_cell BK101.out 3).trans rfl
     have hcz13_4 : wc.cell? ⟨gb101, 4, none⟩ = some (.slice Ao10 t110.length co10) := (blk_cell BK101.out 4).trans rfl
     have hfz13_0 := blk_frozen BK101.out 0
     have hfz13_1 := blk_frozen BK101.out 1
     have hfz13_2 := blk_frozen BK101.out 2
     have hfz13_3 := blk_frozen BK101.out 3
     have hfz13_4 := blk_frozen BK101.out 4
     go_wp2
     refine bodyPost_ret (results_ctt rfl _ _ gb101 40 #[.int .u64 0, .int .u64 0, .int .u64 0, .slice none 0 0, .slice none 0 0] (0, 0) _ rfl (by (with_reducible repeat (first | refine blk_drewN ?_ _ | refine blk_drew ?_ | refine blk_alloc ?_ _)); refine blk_put (cs := #[.int .u64 0, .int .u64 0, .int .u64 0, .slice none 0 0, .slice Ao10 t110.length co10]) ?_ 4 _ rfl; (with_reducible repeat (first | refine blk_drewN ?_ _ | refine blk_drew ?_ | refine blk_alloc ?_ _)); refine blk_put (cs := #[.int .u64 0, .int .u64 0, .int .u64 0, .slice Ao9 t107.length co9, .slice Ao10 t110.length co10]) ?_ 3 _ rfl; (with_reducible repeat (first | refine blk_drewN ?_ _ | refine blk_drew ?_ | refine blk_alloc ?_ _)); refine blk_put (cs := #[.int .u64 0, .int .u64 0, .int .u64 t106, .slice Ao9 t107.length co9, .slice Ao10 t110.length co10]) ?_ 2 _ rfl; (with_reducible repeat (first | refine blk_drewN ?_ _ | refine blk_drew ?_ | refine blk_alloc ?_ _)); refine blk_put (cs := #[.int .u64 0, .int .u64 t105, .int .u64 t106, .slice Ao9 t107.length co9, .slice Ao10 t110.length co10]) ?_ 1 _ rfl; (with_reducible repeat (first | refine blk_drewN ?_ _ | refine blk_drew ?_ | refine blk_alloc ?_ _)); refine blk_put (cs := #[.int .u64 t104, .int .u64 t105, .int .u64 t106, .slice Ao9 t107.length co9, .slice Ao10 t110.length co10]) ?_ 0 _ rfl; (with_reducible repeat (first | refine blk_drewN ?_ _ | refine blk_drew ?_ | refine blk_alloc ?_ _)); exact BK101.out) Tryd.underlying40 rfl (by kernel_rfl)) rfl ?_
     exact ⟨_, _, by first | rfl | (simp [errW_none, errW_some] <;> rfl) | (simp [*, errW_none, errW_some] <;> rfl), by first | exact Kd.R_nil _ _ _ _ _ | exact Kd.N_nil _ _ _ _ _ | exact Kd.V_nil _ _ _ _ _ | exact Kd.Q_nil _ _ _ _ _ | exact Kd.S_nil _ _ _ _ _, by first | exact Kd.R_nil _ _ _ _ _ | exact Kd.N_nil _ _ _ _ _ | exact Kd.V_nil _ _ _ _ _ | exact Kd.Q_nil _ _ _ _ _ | exact Kd.S_nil _ _ _ _ _, bB⟩
    ·replace c12 := Bool.eq_false_iff.mpr c12
     subst c12
     have H1 : (if t114 = 0 then (some (t104, t105, t106, t107, t110, 0, t114)) else (some (t104, t105, t106, t107, t110, t113, t114))) = some (r1, r2, r3, r4, r5, r6, r7) := by rw [if_neg (show ¬ (false = true) by decide)] at H; exact H
     clear H
     have H := H1
     clear H1
     by_cases c14 : t114 = 0
     ·rw [if_pos c14] at H
      have c14b0 : (t114 == 0) = true := beq_iff_eq.mpr c14
      have c14b1 : (t114 != 0) = false := bne_eq_false_iff_eq.mpr c14
      clear c14
      simp only [Option.some.injEq, Prod.mk.injEq] at H
      obtain ⟨rfl, rfl, rfl, rfl, rfl, rfl, rfl⟩ := H
      have hcz15_0 : wc.cell? ⟨gb101, 0, none⟩ = some (.int .u64 t104) := (blk_cell BK101.out 0).trans rfl
      have hcz15_1 : wc.cell? ⟨gb101, 1, none⟩ = some (.int .u64 t105) := (blk_cell BK101.out 1).trans rfl
      have hcz15_2 : wc.cell? ⟨gb101, 2, none⟩ = some (.int .u64 t106) := (blk_cell BK101.out 2).trans rfl
      have hcz15_3 : wc.cell? ⟨gb101, 3, none⟩ = some (.slice Ao9 t107.length co9) := (blk_cell BK101.out 3).trans rfl
      have hcz15_4 : wc.cell? ⟨gb101, 4, none⟩ = some (.slice Ao10 t110.length co10) := (blk_cell BK101.out 4).trans rfl
      have hfz15_0 := blk_frozen BK101.out 0
      have hfz15_1 := blk_frozen BK101.out 1
      have hfz15_2 := blk_frozen BK101.out 2
      have hfz15_3 := blk_frozen BK101.out 3
      have hfz15_4 := blk_frozen BK101.out 4
      go_wp2
      refine bodyPost_ret (results_ctt rfl _ _ gb101 40 #[.int .u64 t104, .int .u64 t105, .int .u64 t106, .slice Ao9 t107.length co9, .slice Ao10 t110.length co10] (0, 0) _ rfl (by (with_reducible repeat (first | refine blk_drewN ?_ _ | refine blk_drew ?_ | refine blk_alloc ?_ _)); refine blk_put (cs := #[.int .u64 t104, .int .u64 t105, .int .u64 t106, .slice Ao9 t107.length co9, .slice Ao10 t110.length co10]) ?_ 4 _ rfl; (with_reducible repeat (first | refine blk_drewN ?_ _ | refine blk_drew ?_ | refine blk_alloc ?_ _)); refine blk_put (cs := #[.int .u64 t104, .int .u64 t105, .int .u64 t106, .slice Ao9 t107.length co9, .slice Ao10 t110.length co10]) ?_ 3 _ rfl; (with_reducible repeat (first | refine blk_drewN ?_ _ | refine blk_drew ?_ | refine blk_alloc ?_ _)); refine blk_put (cs := #[.int .u64 t104, .int .u64 t105, .int .u64 t106, .slice Ao9 t107.length co9, .slice Ao10 t110.length co10]) ?_ 2 _ rfl; (with_reducible repeat (first | refine blk_drewN ?_ _ | refine blk_drew ?_ | refine blk_alloc ?_ _)); refine blk_put (cs := #[.int .u64 t104, .int .u64 t105, .int .u64 t106, .slice Ao9 t107.length co9, .slice Ao10 t110.length co10]) ?_ 1 _ rfl; (with_reducible repeat (first | refine blk_drewN ?_ _ | refine blk_drew ?_ | refine blk_alloc ?_ _)); refine blk_put (cs := #[.int .u64 t104, .int .u64 t105, .int .u64 t106, .slice Ao9 t107.length co9, .slice Ao10 t110.length co10]) ?_ 0 _ rfl; (with_reducible repeat (first | refine blk_drewN ?_ _ | refine blk_drew ?_ | refine blk_alloc ?_ _)); exact BK101.out) Tryd.underlying40 rfl (by kernel_rfl)) rfl ?_
      exact ⟨_, _, by first | rfl | (simp [errW_none, errW_some] <;> rfl) | (simp [*, errW_none, errW_some] <;> rfl), by (with_reducible repeat (first | apply Kd.R_alloc | apply Kd.R_drewN | apply Kd.R_drew)); exact Kd.R_mono (aG HO_102003 BK101) (fun _ hk => hk.1), by (with_reducible repeat (first | apply Kd.R_alloc | apply Kd.R_drewN | apply Kd.R_drew)); exact Kd.R_mono (aG HO_102004 BK101) (fun _ hk => hk.1), bB⟩
     ·rw [if_neg c14] at H
      have c14b0 : (t114 == 0) = false := beq_eq_false_iff_ne.mpr c14
      have c14b1 : (t114 != 0) = true := bne_iff_ne.mpr c14
      simp only [Option.some.injEq, Prod.mk.injEq] at H
      obtain ⟨rfl, rfl, rfl, rfl, rfl, rfl, rfl⟩ := H
      have hcz16_0 : wc.cell? ⟨gb101, 0, none⟩ = some (.int .u64 t104) := (blk_cell BK101.out 0).trans rfl
      have hcz16_1 : wc.cell? ⟨gb101, 1, none⟩ = some (.int .u64 t105) := (blk_cell BK101.out 1).trans rfl
      have hcz16_2 : wc.cell? ⟨gb101, 2, none⟩ = some (.int .u64 t106) := (blk_cell BK101.out 2).trans rfl
      have hcz16_3 : wc.cell? ⟨gb101, 3, none⟩ = some (.slice Ao9 t107.length co9) := (blk_cell BK101.out 3).trans rfl
      have hcz16_4 : wc.cell? ⟨gb101, 4, none⟩ = some (.slice Ao10 t110.length co10) := (blk_cell BK101.out 4).trans rfl
      have hfz16_0 := blk_frozen BK101.out 0
      have hfz16_1 := blk_frozen BK101.out 1
      have hfz16_2 := blk_frozen BK101.out 2
      have hfz16_3 := blk_frozen BK101.out 3
      have hfz16_4 := blk_frozen BK101.out 4
      go_wp2
      refine bodyPost_ret (results_ctt rfl _ _ gb101 40 #[.int .u64 t104, .int .u64 t105, .int .u64 t106, .slice Ao9 t107.length co9, .slice Ao10 t110.length co10] (0, 0) _ rfl (by (with_reducible repeat (first | refine blk_drewN ?_ _ | refine blk_drew ?_ | refine blk_alloc ?_ _)); refine blk_put (cs := #[.int .u64 t104, .int .u64 t105, .int .u64 t106, .slice Ao9 t107.length co9, .slice Ao10 t110.length co10]) ?_ 4 _ rfl; (with_reducible repeat (first | refine blk_drewN ?_ _ | refine blk_drew ?_ | refine blk_alloc ?_ _)); refine blk_put (cs := #[.int .u64 t104, .int .u64 t105, .int .u64 t106, .slice Ao9 t107.length co9, .slice Ao10 t110.length co10]) ?_ 3 _ rfl; (with_reducible repeat (first | refine blk_drewN ?_ _ | refine blk_drew ?_ | refine blk_alloc ?_ _)); refine blk_put (cs := #[.int .u64 t104, .int .u64 t105, .int .u64 t106, .slice Ao9 t107.length co9, .slice Ao10 t110.length co10]) ?_ 2 _ rfl; (with_reducible repeat (first | refine blk_drewN ?_ _ | refine blk_drew ?_ | refine blk_alloc ?_ _)); refine blk_put (cs := #[.int .u64 t104, .int .u64 t105, .int .u64 t106, .slice Ao9 t107.length co9, .slice Ao10 t110.length co10]) ?_ 1 _ rfl; (with_reducible repeat (first | refine blk_drewN ?_ _ | refine blk_drew ?_ | refine blk_alloc ?_ _)); refine blk_put (cs := #[.int .u64 t104, .int .u64 t105, .int .u64 t106, .slice Ao9 t107.length co9, .slice Ao10 t110.length co10]) ?_ 0 _ rfl; (with_reducible repeat (first | refine blk_drewN ?_ _ | refine blk_drew ?_ | refine blk_alloc ?_ _)); exact BK101.out) Tryd.underlying40 rfl (by kernel_rfl)) rfl ?_
      exact ⟨_, _, by first | rfl | (simp [errW_none, errW_some] <;> rfl) | (simp [*, errW_none, errW_some] <;> rfl), by (with_reducible repeat (first | apply Kd.R_alloc | apply Kd.R_drewN | apply Kd.R_drew)); exact Kd.R_mono (aG HO_102003 BK101) (fun _ hk => hk.1), by (with_reducible repeat (first | apply Kd.R_alloc | apply Kd.R_drewN | apply Kd.R_drew)); exact Kd.R_mono (aG HO_102004 BK101) (fun _ hk => hk.1), bB⟩
 ·rw [if_neg c2] at H
  exact absurd H (by simp)

end Go.Proofs.YtildmfegfkiknaaDoor.X
