-- Written by a program of this session (wip/xp), out of the translation. Not trusted: Lean checks it.
import Derived.Test.YtildmfegfkiknaaDoorX0
import Derived.Test.YtildmfegfkiknaaDoorXn16
import Derived.Test.YtildmfegfkiknaaDoorXn61
-- shrunk
namespace Go.Proofs.YtildmfegfkiknaaDoor.X
open Go.RowKit Go.Proofs.YtildmfegfkiknaaDoorW.PrintWords Go.Proofs.YtildmfegfkiknaaDoorW.PrintLast Go.Proofs.YtildmfegfkiknaaDoorW.PrintMore
attribute [local go_sem] Lab.str_gtr Lab.str_leq Lab.str_geq max2_int min2_int max_two min_two max_three min_three max_four min_four   -- for this text's walks alone
set_option linter.unusedVariables false
set_option linter.unusedSimpArgs false

/-! ### ferruleref03_Parse: function 34 -/
mutual
def ferruleref03_Parse.j0 : Nat → ByteArray → Int → Bool → Option (Int × Int × Int × List ByteArray × List ByteArray × Int × Int)
 | 0, _, _, _ => none
 | k + 1, x0, x1, x18 => if x18 = true then (some (0, 0, 0, ([] : List ByteArray), ([] : List ByteArray), 0, 1)) else (ferruleref03_Parse.l0 k x0 x1 0 0 0 0)
def ferruleref03_Parse.l0 : Nat → ByteArray → Int → Int → Int → Int → Int → Option (Int × Int × Int × List ByteArray × List ByteArray × Int × Int)
 | 0, _, _, _, _, _, _ => none
 | k + 1, x0, x1, x6, x103000, x103001, x103002 => if x6 < 3 then (if x6 > 0 then (if x1 = (x0.size : Int) then (some (0, 0, 0, ([] : List ByteArray), ([] : List ByteArray), x1, 2)) else (if 0 ≤ x1 then (if x1 < (x0.size : Int) then (if (bt x0 x1) = 46 then ((ferruleref01_Parse.f k x0 (wrap64 (x1 + 1))).bind fun bt103 => (if bt103.2.2 = 0 then (if x6 = 0 then (ferruleref03_Parse.l0 k x0 (wrap64 ((wrap64 (x1 + 1)) + bt103.2.1)) (wrap64 (x6 + 1)) bt103.1 x103001 x103002) else (if x6 = 1 then (ferruleref03_Parse.l0 k x0 (wrap64 ((wrap64 (x1 + 1)) + bt103.2.1)) (wrap64 (x6 + 1)) x103000 bt103.1 x103002) else (if x6 = 2 then (ferruleref03_Parse.l0 k x0 (wrap64 ((wrap64 (x1 + 1)) + bt103.2.1)) (wrap64 (x6 + 1)) x103000 x103001 bt103.1) else (none)))) else (some (0, 0, 0, ([] : List ByteArray), ([] : List ByteArray), wrap64 (x1 + 1), bt103.2.2)))) else (some (0, 0, 0, ([] : List ByteArray), ([] : List ByteArray), x1, 3))) else (none)) else (none))) else ((ferruleref01_Parse.f k x0 x1).bind fun bt107 => (if bt107.2.2 = 0 then (if x6 = 0 then (ferruleref03_Parse.l0 k x0 (wrap64 (x1 + bt107.2.1)) (wrap64 (x6 + 1)) bt107.1 x103001 x103002) else (if x6 = 1 then (ferruleref03_Parse.l0 k x0 (wrap64 (x1 + bt107.2.1)) (wrap64 (x6 + 1)) x103000 bt107.1 x103002) else (if x6 = 2 then (ferruleref03_Parse.l0 k x0 (wrap64 (x1 + bt107.2.1)) (wrap64 (x6 + 1)) x103000 x103001 bt107.1) else (none)))) else (some (0, 0, 0, ([] : List ByteArray), ([] : List ByteArray), x1, bt107.2.2))))) else (if x1 < (x0.size : Int) then (if 0 ≤ x1 then (ferruleref03_Parse.j2 k x0 x1 ((bt x0 x1) == 45) x103000 x103001 x103002) else (none)) else (ferruleref03_Parse.j2 k x0 x1 false x103000 x103001 x103002))
def ferruleref03_Parse.j2 : Nat → ByteArray → Int → Bool → Int → Int → Int → Option (Int × Int × Int × List ByteArray × List ByteArray × Int × Int)
 | 0, _, _, _, _, _, _ => none
 | k + 1, x0, x1, x74, x112000, x112001, x112002 => if x74 = true then ((ferruleref02_Row.f k x0 (wrap64 (x1 + 1)) true).bind fun bt112 => (if bt112.2.2 = 0 then (ferruleref03_Parse.j3 k x0 (wrap64 ((wrap64 (x1 + 1)) + bt112.2.1)) x112000 x112001 x112002 bt112.1) else (some (0, 0, 0, ([] : List ByteArray), ([] : List ByteArray), wrap64 (x1 + 1), bt112.2.2)))) else (ferruleref03_Parse.j3 k x0 x1 x112000 x112001 x112002 ([] : List ByteArray))
def ferruleref03_Parse.j3 : Nat → ByteArray → Int → Int → Int → Int → List ByteArray → Option (Int × Int × Int × List ByteArray × List ByteArray × Int × Int)
 | 0, _, _, _, _, _, _ => none
 | k + 1, x0, x1, x112000, x112001, x112002, x112003 => if x1 < (x0.size : Int) then (if 0 ≤ x1 then (ferruleref03_Parse.j4 k x0 x1 ((bt x0 x1) == 43) x112000 x112001 x112002 x112003) else (none)) else (ferruleref03_Parse.j4 k x0 x1 false x112000 x112001 x112002 x112003)
def ferruleref03_Parse.j4 : Nat → ByteArray → Int → Bool → Int → Int → Int → List ByteArray → Option (Int × Int × Int × List ByteArray × List ByteArray × Int × Int)
 | 0, _, _, _, _, _, _, _ => none
 | k + 1, x0, x1, x104, x112000, x112001, x112002, x112003 => if x104 = true then ((ferruleref02_Row.f k x0 (wrap64 (x1 + 1)) false).bind fun bt118 => (if bt118.2.2 = 0 then (some (x112000, x112001, x112002, x112003, bt118.1, wrap64 ((wrap64 (x1 + 1)) + bt118.2.1), 0)) else (some (0, 0, 0, ([] : List ByteArray), ([] : List ByteArray), wrap64 (x1 + 1), bt118.2.2)))) else (some (x112000, x112001, x112002, x112003, ([] : List ByteArray), x1, 0))
end
def ferruleref03_Parse.f (k : Nat) (a0 : ByteArray) (a1 : Int) : Option (Int × Int × Int × List ByteArray × List ByteArray × Int × Int) := if a1 < 0 then (ferruleref03_Parse.j0 k a0 a1 true) else (ferruleref03_Parse.j0 k a0 a1 (decide (a1 > (a0.size : Int))))
theorem ferruleref03_Parse.mono_l : ∀ k, (∀ y0 y1 y2, LeO (ferruleref03_Parse.j0 k y0 y1 y2) (ferruleref03_Parse.j0 (k + 1) y0 y1 y2)) ∧ (∀ y0 y1 y2 y3 y4 y5, LeO (ferruleref03_Parse.l0 k y0 y1 y2 y3 y4 y5) (ferruleref03_Parse.l0 (k + 1) y0 y1 y2 y3 y4 y5)) ∧ (∀ y0 y1 y2 y3 y4 y5, LeO (ferruleref03_Parse.j2 k y0 y1 y2 y3 y4 y5) (ferruleref03_Parse.j2 (k + 1) y0 y1 y2 y3 y4 y5)) ∧ (∀ y0 y1 y2 y3 y4 y5, LeO (ferruleref03_Parse.j3 k y0 y1 y2 y3 y4 y5) (ferruleref03_Parse.j3 (k + 1) y0 y1 y2 y3 y4 y5)) ∧ (∀ y0 y1 y2 y3 y4 y5 y6, LeO (ferruleref03_Parse.j4 k y0 y1 y2 y3 y4 y5 y6) (ferruleref03_Parse.j4 (k + 1) y0 y1 y2 y3 y4 y5 y6))
 | 0 => ⟨fun _ _ _ r h => by simp [ferruleref03_Parse.j0] at h, fun _ _ _ _ _ _ r h => by simp [ferruleref03_Parse.l0] at h, fun _ _ _ _ _ _ r h => by simp [ferruleref03_Parse.j2] at h, fun _ _ _ _ _ _ r h => by simp [ferruleref03_Parse.j3] at h, fun _ _ _ _ _ _ _ r h => by simp [ferruleref03_Parse.j4] at h⟩
 | k + 1 => by
  obtain ⟨ih0, ih1, ih2, ih3, ih4⟩ := ferruleref03_Parse.mono_l k
  refine ⟨?_, ?_, ?_, ?_, ?_⟩
  ·intro y0 y1 y2
   unfold ferruleref03_Parse.j0
   repeat' first
   | (with_reducible exact ih0 _ _ _)
   | (with_reducible exact ih1 _ _ _ _ _ _)
   | (with_reducible exact ih2 _ _ _ _ _ _)
   | (with_reducible exact ih3 _ _ _ _ _ _)
   | (with_reducible exact ih4 _ _ _ _ _ _ _)
   | (with_reducible exact ferruleref01_Parse.mono _ _ _)
   | (with_reducible exact ferruleref02_Row.mono _ _ _ _)
   | (with_reducible exact LeO.refl _)
   | (with_reducible exact LeO.none _)
   | (with_reducible refine LeO.ite ?_ ?_)
   | (with_reducible refine LeO.bind ?_ (fun _ => ?_))
   | exact ih0 _ _ _
   | exact ih1 _ _ _ _ _ _
   | exact ih2 _ _ _ _ _ _
   | exact ih3 _ _ _ _ _ _
   | exact ih4 _ _ _ _ _ _ _
   | exact ferruleref01_Parse.mono _ _ _
   | exact ferruleref02_Row.mono _ _ _ _
   | exact LeO.none _
   | refine LeO.ite ?_ ?_
   | refine LeO.bind ?_ (fun _ => ?_)
  ·intro y0 y1 y2 y3 y4 y5
   unfold ferruleref03_Parse.l0
   repeat' first
   | (with_reducible exact ih0 _ _ _)
   | (with_reducible exact ih1 _ _ _ _ _ _)
   | (with_reducible exact ih2 _ _ _ _ _ _)
   | (with_reducible exact ih3 _ _ _ _ _ _)
   | (with_reducible exact ih4 _ _ _ _ _ _ _)
   | (with_reducible exact ferruleref01_Parse.mono _ _ _)
   | (with_reducible exact ferruleref02_Row.mono _ _ _ _)
   | (with_reducible exact LeO.refl _)
   | (with_reducible exact LeO.none _)
   | (with_reducible refine LeO.ite ?_ ?_)
   | (with_reducible refine LeO.bind ?_ (fun _ => ?_))
   | exact ih0 _ _ _
   | exact ih1 _ _ _ _ _ _
   | exact ih2 _ _ _ _ _ _
   | exact ih3 _ _ _ _ _ _
   | exact ih4 _ _ _ _ _ _ _
   | exact ferruleref01_Parse.mono _ _ _
   | exact ferruleref02_Row.mono _ _ _ _
   | exact LeO.none _
   | refine LeO.ite ?_ ?_
   | refine LeO.bind ?_ (fun _ => ?_)
  ·intro y0 y1 y2 y3 y4 y5
   unfold ferruleref03_Parse.j2
   repeat' first
   | (with_reducible exact ih0 _ _ _)
   | (with_reducible exact ih1 _ _ _ _ _ _)
   | (with_reducible exact ih2 _ _ _ _ _ _)
   | (with_reducible exact ih3 _ _ _ _ _ _)
   | (with_reducible exact ih4 _ _ _ _ _ _ _)
   | (with_reducible exact ferruleref01_Parse.mono _ _ _)
   | (with_reducible exact ferruleref02_Row.mono _ _ _ _)
   | (with_reducible exact LeO.refl _)
   | (with_reducible exact LeO.none _)
   | (with_reducible refine LeO.ite ?_ ?_)
   | (with_reducible refine LeO.bind ?_ (fun _ => ?_))
   | exact ih0 _ _ _
   | exact ih1 _ _ _ _ _ _
   | exact ih2 _ _ _ _ _ _
   | exact ih3 _ _ _ _ _ _
   | exact ih4 _ _ _ _ _ _ _
   | exact ferruleref01_Parse.mono _ _ _
   | exact ferruleref02_Row.mono _ _ _ _
   | exact LeO.none _
   | refine LeO.ite ?_ ?_
   | refine LeO.bind ?_ (fun _ => ?_)
  ·intro y0 y1 y2 y3 y4 y5
   unfold ferruleref03_Parse.j3
   repeat' first
   | (with_reducible exact ih0 _ _ _)
   | (with_reducible exact ih1 _ _ _ _ _ _)
   | (with_reducible exact ih2 _ _ _ _ _ _)
   | (with_reducible exact ih3 _ _ _ _ _ _)
   | (with_reducible exact ih4 _ _ _ _ _ _ _)
   | (with_reducible exact ferruleref01_Parse.mono _ _ _)
   | (with_reducible exact ferruleref02_Row.mono _ _ _ _)
   | (with_reducible exact LeO.refl _)
   | (with_reducible exact LeO.none _)
   | (with_reducible refine LeO.ite ?_ ?_)
   | (with_reducible refine LeO.bind ?_ (fun _ => ?_))
   | exact ih0 _ _ _
   | exact ih1 _ _ _ _ _ _
   | exact ih2 _ _ _ _ _ _
   | exact ih3 _ _ _ _ _ _
   | exact ih4 _ _ _ _ _ _ _
   | exact ferruleref01_Parse.mono _ _ _
   | exact ferruleref02_Row.mono _ _ _ _
   | exact LeO.none _
   | refine LeO.ite ?_ ?_
   | refine LeO.bind ?_ (fun _ => ?_)
  ·intro y0 y1 y2 y3 y4 y5 y6
   unfold ferruleref03_Parse.j4
   repeat' first
   | (with_reducible exact ih0 _ _ _)
   | (with_reducible exact ih1 _ _ _ _ _ _)
   | (with_reducible exact ih2 _ _ _ _ _ _)
   | (with_reducible exact ih3 _ _ _ _ _ _)
   | (with_reducible exact ih4 _ _ _ _ _ _ _)
   | (with_reducible exact ferruleref01_Parse.mono _ _ _)
   | (with_reducible exact ferruleref02_Row.mono _ _ _ _)
   | (with_reducible exact LeO.refl _)
   | (with_reducible exact LeO.none _)
   | (with_reducible refine LeO.ite ?_ ?_)
   | (with_reducible refine LeO.bind ?_ (fun _ => ?_))
   | exact ih0 _ _ _
   | exact ih1 _ _ _ _ _ _
   | exact ih2 _ _ _ _ _ _
   | exact ih3 _ _ _ _ _ _
   | exact ih4 _ _ _ _ _ _ _
   | exact ferruleref01_Parse.mono _ _ _
   | exact ferruleref02_Row.mono _ _ _ _
   | exact LeO.none _
   | refine LeO.ite ?_ ?_
   | refine LeO.bind ?_ (fun _ => ?_)
theorem ferruleref03_Parse.mono : ∀ a0 a1 k, LeO (ferruleref03_Parse.f k a0 a1) (ferruleref03_Parse.f (k + 1) a0 a1) := by
 intro a0 a1 k
 obtain ⟨ih0, ih1, ih2, ih3, ih4⟩ := ferruleref03_Parse.mono_l k
 unfold ferruleref03_Parse.f
 repeat' first
   | (with_reducible exact ih0 _ _ _)
   | (with_reducible exact ih1 _ _ _ _ _ _)
   | (with_reducible exact ih2 _ _ _ _ _ _)
   | (with_reducible exact ih3 _ _ _ _ _ _)
   | (with_reducible exact ih4 _ _ _ _ _ _ _)
   | (with_reducible exact ferruleref01_Parse.mono _ _ _)
   | (with_reducible exact ferruleref02_Row.mono _ _ _ _)
   | (with_reducible exact LeO.refl _)
   | (with_reducible exact LeO.none _)
   | (with_reducible refine LeO.ite ?_ ?_)
   | (with_reducible refine LeO.bind ?_ (fun _ => ?_))
   | exact ih0 _ _ _
   | exact ih1 _ _ _ _ _ _
   | exact ih2 _ _ _ _ _ _
   | exact ih3 _ _ _ _ _ _
   | exact ih4 _ _ _ _ _ _ _
   | exact ferruleref01_Parse.mono _ _ _
   | exact ferruleref02_Row.mono _ _ _ _
   | exact LeO.none _
   | refine LeO.ite ?_ ?_
   | refine LeO.bind ?_ (fun _ => ?_)
set_option maxHeartbeats 8000000 in
set_option maxRecDepth 100000 in
theorem ferruleref03_Parse.calls (k : Nat) (a0 : ByteArray) (a1 : Int) (r1 : Int) (r2 : Int) (r3 : Int) (r4 : List ByteArray) (r5 : List ByteArray) (r6 : Int) (r7 : Int) (w : World) (h : ferruleref03_Parse.f k a0 a1 = some (r1, r2, r3, r4, r5, r6, r7)) :
  Calls Tryd.prog 34 #[.string a0, .int .i64 a1] w fun e w' => ∃ v3_ v4_ : Value, e = .returned (.agg #[.int .u64 r1, .int .u64 r2, .int .u64 r3, v3_, v4_, .int .i64 r6, .int .i64 r7]) ∧ Kd.R Kd.string 9 w' w.heap.size (fun k_ => some k_ ≠ (v4_ : Value).ownBlock) v3_ r4 ∧ Kd.R Kd.string 9 w' w.heap.size (fun k_ => some k_ ≠ (v3_ : Value).ownBlock) v4_ r5 ∧ Below w.heap.size w w' := by
 have hu50 := Tryd.underlying50
 have hu67 := Tryd.underlying67
 have hu75 := Tryd.underlying75
 have hu40 := Tryd.underlying40
 have hu29 := Tryd.underlying29
 have HB := Aside0.mk (Below.refl w.heap.size w)
 have H : (if a1 < 0 then (ferruleref03_Parse.j0 k a0 a1 true) else (ferruleref03_Parse.j0 k a0 a1 (decide (a1 > (a0.size : Int))))) = some (r1, r2, r3, r4, r5, r6, r7) := h
 clear h
 have HC3 := Aside0.mk H
 clear H
 go_enter Tryd.func34, Tryd.ntmps34
 go_upto_region 1 with (first | ((with_reducible refine gate_dst (N := 4) rfl ?_); (try (refine gate_guard (by rfl) ?_; dsimp only)); refine box_event ?hg (N := 4) ?hd (cs := #[.int .u64 0, .int .u64 0, .int .u64 0, .slice none 0 0, .slice none 0 0, .int .i64 0, .int .i64 0]) (t := 50) ?hr ?_; (case hd => rfl); (case hg => rfl); (case hr => first | (go_simp; done) | (go_simp; rfl)); intro gb101 hg w4 hbox hb; have BK101 := Aside0.mk hbox; have GW101 := Aside0.mk ((by rw [hg]; exact (below_size bB) : w.heap.size ≤ gb101)); have GE101 := Aside0.mk ((by rw [hg]; exact (below_size bB) : w.heap.size ≤ gb101)); replace HB := aB HB hb; clear hb hbox hg))
 (try simp only [Act.put, List.setIfInBounds_toArray, List.set_cons_zero, List.set_cons_succ])
 go_cut [18] (fun v18 wc => ∃ (kq : Nat) (x18_2 : Bool), v18 = .bool x18_2 ∧ Aside0 (ferruleref03_Parse.j0 kq a0 a1 x18_2 = some (r1, r2, r3, r4, r5, r6, r7)) ∧ Aside0 (kq ≤ k) ∧ Aside0 (wc.heap[gb101]? = some (.cells #[.int .u64 0, .int .u64 0, .int .u64 0, (.slice none 0 0), (.slice none 0 0), .int .i64 0, .int .i64 0] 50 (0, 0))) ∧ Aside0 (Below w.heap.size w wc))
 case first =>
  have H := HC3.out
  clear HC3
  by_cases c5 : a1 < 0
  ·rw [if_pos c5] at H
   have c5b0 : decide (a1 < 0) = true := decide_eq_true c5
   clear c5
   (first | rw [c5b0] | (simp only [i64_w, i32_w]; rw [c5b0]) | skip)
   have H' := Aside0.mk H
   clear H
   go_wp2
   go_meet
   case rel => exact ⟨_, (true), bS, H', ⟨by first | omega | exact Nat.le_refl _⟩, ⟨aKw BK101⟩, ⟨bB⟩⟩
  ·rw [if_neg c5] at H
   have c5b0 : decide (a1 < 0) = false := decide_eq_false c5
   clear c5
   (first | rw [c5b0] | (simp only [i64_w, i32_w]; rw [c5b0]) | skip)
   have H' := Aside0.mk H
   clear H
   go_wp2
   go_meet
   case rel => exact ⟨_, (decide (a1 > (a0.size : Int))), bS, H', ⟨by first | omega | exact Nat.le_refl _⟩, ⟨aKw BK101⟩, ⟨bB⟩⟩
 case rest =>
  clear HC3
  try clear p2
  try clear c3
  try clear c5
  try clear c5b0
  obtain ⟨kq, x18_2, rfl, HA, HJ2, BK101, HB⟩ := hcut
  cases kq with
  | zero => exact absurd HA.out (by simp [ferruleref03_Parse.j0])
  | succ kj2 =>
   have H := HA.out
   clear HA
   simp only [ferruleref03_Parse.j0] at H
   by_cases c6 : x18_2 = true
   ·subst c6
    have H1 : (some (0, 0, 0, ([] : List ByteArray), ([] : List ByteArray), 0, 1)) = some (r1, r2, r3, r4, r5, r6, r7) := by rw [if_pos rfl] at H; exact H
    clear H
    have H := H1
    clear H1
    simp only [Option.some.injEq, Prod.mk.injEq] at H
    obtain ⟨rfl, rfl, rfl, rfl, rfl, rfl, rfl⟩ := H
    have hcz7_0 : wc.cell? ⟨gb101, 0, none⟩ = some (.int .u64 0) := (blk_cell BK101.out 0).trans rfl
    have hcz7_1 : wc.cell? ⟨gb101, 1, none⟩ = some (.int .u64 0) := (blk_cell BK101.out 1).trans rfl
    have hcz7_2 : wc.cell? ⟨gb101, 2, none⟩ = some (.int .u64 0) := (blk_cell BK101.out 2).trans rfl
    have hcz7_3 : wc.cell? ⟨gb101, 3, none⟩ = some (.slice none 0 0) := (blk_cell BK101.out 3).trans rfl
    have hcz7_4 : wc.cell? ⟨gb101, 4, none⟩ = some (.slice none 0 0) := (blk_cell BK101.out 4).trans rfl
    have hcz7_5 : wc.cell? ⟨gb101, 5, none⟩ = some (.int .i64 0) := (blk_cell BK101.out 5).trans rfl
    have hcz7_6 : wc.cell? ⟨gb101, 6, none⟩ = some (.int .i64 0) := (blk_cell BK101.out 6).trans rfl
    have hfz7_0 := blk_frozen BK101.out 0
    have hfz7_1 := blk_frozen BK101.out 1
    have hfz7_2 := blk_frozen BK101.out 2
    have hfz7_3 := blk_frozen BK101.out 3
    have hfz7_4 := blk_frozen BK101.out 4
    have hfz7_5 := blk_frozen BK101.out 5
    have hfz7_6 := blk_frozen BK101.out 6
    go_wp2
    refine bodyPost_ret (results_cell_row rfl _ _ gb101 50 #[.int .u64 0, .int .u64 0, .int .u64 0, .slice none 0 0, .slice none 0 0, .int .i64 0, .int .i64 1] (0, 0) _ rfl (by (with_reducible repeat (first | refine blk_drewN ?_ _ | refine blk_drew ?_ | refine blk_alloc ?_ _)); refine blk_put (cs := #[.int .u64 0, .int .u64 0, .int .u64 0, .slice none 0 0, .slice none 0 0, .int .i64 0, .int .i64 0]) ?_ 6 _ rfl; (with_reducible repeat (first | refine blk_drewN ?_ _ | refine blk_drew ?_ | refine blk_alloc ?_ _)); refine blk_put (cs := #[.int .u64 0, .int .u64 0, .int .u64 0, .slice none 0 0, .slice none 0 0, .int .i64 0, .int .i64 0]) ?_ 5 _ rfl; (with_reducible repeat (first | refine blk_drewN ?_ _ | refine blk_drew ?_ | refine blk_alloc ?_ _)); refine blk_put (cs := #[.int .u64 0, .int .u64 0, .int .u64 0, .slice none 0 0, .slice none 0 0, .int .i64 0, .int .i64 0]) ?_ 4 _ rfl; (with_reducible repeat (first | refine blk_drewN ?_ _ | refine blk_drew ?_ | refine blk_alloc ?_ _)); refine blk_put (cs := #[.int .u64 0, .int .u64 0, .int .u64 0, .slice none 0 0, .slice none 0 0, .int .i64 0, .int .i64 0]) ?_ 3 _ rfl; (with_reducible repeat (first | refine blk_drewN ?_ _ | refine blk_drew ?_ | refine blk_alloc ?_ _)); refine blk_put (cs := #[.int .u64 0, .int .u64 0, .int .u64 0, .slice none 0 0, .slice none 0 0, .int .i64 0, .int .i64 0]) ?_ 2 _ rfl; (with_reducible repeat (first | refine blk_drewN ?_ _ | refine blk_drew ?_ | refine blk_alloc ?_ _)); refine blk_put (cs := #[.int .u64 0, .int .u64 0, .int .u64 0, .slice none 0 0, .slice none 0 0, .int .i64 0, .int .i64 0]) ?_ 1 _ rfl; (with_reducible repeat (first | refine blk_drewN ?_ _ | refine blk_drew ?_ | refine blk_alloc ?_ _)); refine blk_put (cs := #[.int .u64 0, .int .u64 0, .int .u64 0, .slice none 0 0, .slice none 0 0, .int .i64 0, .int .i64 0]) ?_ 0 _ rfl; (with_reducible repeat (first | refine blk_drewN ?_ _ | refine blk_drew ?_ | refine blk_alloc ?_ _)); exact BK101.out) Tryd.underlying50 rfl (by kernel_rfl)) rfl ?_
    exact ⟨_, _, by first | rfl | (simp [errW_none, errW_some] <;> rfl) | (simp [*, errW_none, errW_some] <;> rfl), by first | exact Kd.R_nil _ _ _ _ _ | exact Kd.N_nil _ _ _ _ _ | exact Kd.V_nil _ _ _ _ _ | exact Kd.Q_nil _ _ _ _ _ | exact Kd.S_nil _ _ _ _ _, by first | exact Kd.R_nil _ _ _ _ _ | exact Kd.N_nil _ _ _ _ _ | exact Kd.V_nil _ _ _ _ _ | exact Kd.Q_nil _ _ _ _ _ | exact Kd.S_nil _ _ _ _ _, bB⟩
   ·replace c6 := Bool.eq_false_iff.mpr c6
    subst c6
    have H1 : (ferruleref03_Parse.l0 kj2 a0 a1 0 0 0 0) = some (r1, r2, r3, r4, r5, r6, r7) := by rw [if_neg (show ¬ (false = true) by decide)] at H; exact H
    clear H
    have H := H1
    clear H1
    have H' := Aside0.mk H
    clear H
    go_wp2_with (first | ((with_reducible refine gate_dst (N := 5) rfl ?_); (try (refine gate_guard (by rfl) ?_; dsimp only)); refine box_event ?hg (N := 5) ?hd (cs := #[.int .u64 0, .int .u64 0, .int .u64 0]) (t := 67) ?hr ?_; (case hd => rfl); (case hg => rfl); (case hr => first | (go_simp; done) | (go_simp; rfl)); intro gb102 hg w8 hbox hb; have BK102 := Aside0.mk hbox; have GW102 := Aside0.mk ((by rw [hg]; exact (below_size bB) : w.heap.size ≤ gb102)); have GE102 := Aside0.mk ((by rw [hg]; exact (below_size bB) : w.heap.size ≤ gb102)); replace HB := aB HB hb; have NB101_102 := Aside0.mk ((by rw [hg]; exact Nat.ne_of_lt (blk_lt (g := gb101) (o := .cells #[.int .u64 0, .int .u64 0, .int .u64 0, .slice none 0 0, .slice none 0 0, .int .i64 0, .int .i64 0] 50 (0, 0)) (aKw BK101)) : gb101 ≠ gb102)); have NB102_101 := Aside0.mk ((by rw [hg]; exact Nat.ne_of_gt (blk_lt (g := gb101) (o := .cells #[.int .u64 0, .int .u64 0, .int .u64 0, .slice none 0 0, .slice none 0 0, .int .i64 0, .int .i64 0] 50 (0, 0)) (aKw BK101)) : gb102 ≠ gb101)); replace BK101 := aK BK101 hb; clear hb hbox hg))
    go_loopg [1, 6] kj2 (fun kq v1 v6 w' => ∃ (x1_2 : Int) (x6_2 : Int) (x102000_2 : Int) (x102001_2 : Int) (x102002_2 : Int) (x102005_2 : Int) (x102006_2 : Int) (x103000_2 : Int) (x103001_2 : Int) (x103002_2 : Int), v1 = .int .i64 x1_2 ∧ v6 = .int .i64 x6_2 ∧ Aside0 (ferruleref03_Parse.l0 kq a0 x1_2 x6_2 x103000_2 x103001_2 x103002_2 = some (r1, r2, r3, r4, r5, r6, r7)) ∧ Aside0 (kq ≤ kj2) ∧ Aside0 (w'.heap[gb101]? = some (.cells #[.int .u64 x102000_2, .int .u64 x102001_2, .int .u64 x102002_2, (.slice none 0 0), (.slice none 0 0), .int .i64 x102005_2, .int .i64 x102006_2] 50 (0, 0))) ∧ Aside0 (w'.heap[gb102]? = some (.cells #[.int .u64 x103000_2, .int .u64 x103001_2, .int .u64 x103002_2] 67 (0, 0))) ∧ Aside0 (Below w.heap.size w w'))
    case atStart => exact ⟨(a1), (0), (0), (0), (0), (0), (0), (0), (0), (0), bS, bS, H', ⟨Nat.le_refl _⟩, ⟨aKw BK101⟩, ⟨aKw BK102⟩, ⟨bB⟩⟩
    case round =>
     clear H'
     try clear p2
     try clear c3
     try clear c5
     try clear c5b0
     try clear c6
     try clear p6
     try clear hcz7_0
     try clear hcz7_1
     try clear hcz7_2
     try clear hcz7_3
     try clear hcz7_4
     try clear hcz7_5
     try clear hcz7_6
     try clear hfz7_0
     try clear hfz7_1
     try clear hfz7_2
     try clear hfz7_3
     try clear hfz7_4
     try clear hfz7_5
     try clear hfz7_6
     try clear p2
     obtain ⟨x1_2, x6_2, x102000_2, x102001_2, x102002_2, x102005_2, x102006_2, x103000_2, x103001_2, x103002_2, rfl, rfl, HA, HK2, BK101, BK102, HB⟩ := hrel
     cases gk with
     | zero => exact absurd HA.out (by simp [ferruleref03_Parse.l0])
     | succ k2 =>
      have H := HA.out
      clear HA
      simp only [ferruleref03_Parse.l0] at H
      by_cases c9 : x6_2 < 3
      ·rw [if_pos c9] at H
       have c9b0 : decide (x6_2 < 3) = true := decide_eq_true c9
       clear c9
       by_cases c10 : x6_2 > 0
       ·rw [if_pos c10] at H
        have c10b0 : decide (0 < x6_2) = true := decide_eq_true c10
        clear c10
        by_cases c11 : x1_2 = (a0.size : Int)
        ·rw [if_pos c11] at H
         have c11b0 : (x1_2 == (a0.size : Int)) = true := beq_iff_eq.mpr c11
         have c11b1 : (x1_2 != (a0.size : Int)) = false := bne_eq_false_iff_eq.mpr c11
         clear c11
         simp only [Option.some.injEq, Prod.mk.injEq] at H
         obtain ⟨rfl, rfl, rfl, rfl, rfl, rfl, rfl⟩ := H
         have hnb12 := NB101_102.out
         have hnc12 := NB102_101.out
         have hcz13_0 : wr.cell? ⟨gb101, 0, none⟩ = some (.int .u64 x102000_2) := (blk_cell BK101.out 0).trans rfl
         have hcz13_1 : wr.cell? ⟨gb101, 1, none⟩ = some (.int .u64 x102001_2) := (blk_cell BK101.out 1).trans rfl
         have hcz13_2 : wr.cell? ⟨gb101, 2, none⟩ = some (.int .u64 x102002_2) := (blk_cell BK101.out 2).trans rfl
         have hcz13_3 : wr.cell? ⟨gb101, 3, none⟩ = some (.slice none 0 0) := (blk_cell BK101.out 3).trans rfl
         have hcz13_4 : wr.cell? ⟨gb101, 4, none⟩ = some (.slice none 0 0) := (blk_cell BK101.out 4).trans rfl
         have hcz13_5 : wr.cell? ⟨gb101, 5, none⟩ = some (.int .i64 x102005_2) := (blk_cell BK101.out 5).trans rfl
         have hcz13_6 : wr.cell? ⟨gb101, 6, none⟩ = some (.int .i64 x102006_2) := (blk_cell BK101.out 6).trans rfl
         have hfz13_0 := blk_frozen BK101.out 0
         have hfz13_1 := blk_frozen BK101.out 1
         have hfz13_2 := blk_frozen BK101.out 2
         have hfz13_3 := blk_frozen BK101.out 3
         have hfz13_4 := blk_frozen BK101.out 4
         have hfz13_5 := blk_frozen BK101.out 5
         have hfz13_6 := blk_frozen BK101.out 6
         go_wp2
         refine bodyPost_ret (results_cell_row rfl _ _ gb101 50 #[.int .u64 0, .int .u64 0, .int .u64 0, .slice none 0 0, .slice none 0 0, .int .i64 x1_2, .int .i64 2] (0, 0) _ rfl (by (with_reducible repeat (first | refine blk_drewN ?_ _ | refine blk_drew ?_ | refine blk_alloc ?_ _)); refine blk_put (cs := #[.int .u64 0, .int .u64 0, .int .u64 0, .slice none 0 0, .slice none 0 0, .int .i64 x1_2, .int .i64 x102006_2]) ?_ 6 _ rfl; (with_reducible repeat (first | refine blk_drewN ?_ _ | refine blk_drew ?_ | refine blk_alloc ?_ _)); refine blk_put (cs := #[.int .u64 0, .int .u64 0, .int .u64 0, .slice none 0 0, .slice none 0 0, .int .i64 x102005_2, .int .i64 x102006_2]) ?_ 5 _ rfl; (with_reducible repeat (first | refine blk_drewN ?_ _ | refine blk_drew ?_ | refine blk_alloc ?_ _)); refine blk_put (cs := #[.int .u64 0, .int .u64 0, .int .u64 0, .slice none 0 0, .slice none 0 0, .int .i64 x102005_2, .int .i64 x102006_2]) ?_ 4 _ rfl; (with_reducible repeat (first | refine blk_drewN ?_ _ | refine blk_drew ?_ | refine blk_alloc ?_ _)); refine blk_put (cs := #[.int .u64 0, .int .u64 0, .int .u64 0, .slice none 0 0, .slice none 0 0, .int .i64 x102005_2, .int .i64 x102006_2]) ?_ 3 _ rfl; (with_reducible repeat (first | refine blk_drewN ?_ _ | refine blk_drew ?_ | refine blk_alloc ?_ _)); refine blk_put (cs := #[.int .u64 0, .int .u64 0, .int .u64 x102002_2, .slice none 0 0, .slice none 0 0, .int .i64 x102005_2, .int .i64 x102006_2]) ?_ 2 _ rfl; (with_reducible repeat (first | refine blk_drewN ?_ _ | refine blk_drew ?_ | refine blk_alloc ?_ _)); refine blk_put (cs := #[.int .u64 0, .int .u64 x102001_2, .int .u64 x102002_2, .slice none 0 0, .slice none 0 0, .int .i64 x102005_2, .int .i64 x102006_2]) ?_ 1 _ rfl; (with_reducible repeat (first | refine blk_drewN ?_ _ | refine blk_drew ?_ | refine blk_alloc ?_ _)); refine blk_put (cs := #[.int .u64 x102000_2, .int .u64 x102001_2, .int .u64 x102002_2, .slice none 0 0, .slice none 0 0, .int .i64 x102005_2, .int .i64 x102006_2]) ?_ 0 _ rfl; (with_reducible repeat (first | refine blk_drewN ?_ _ | refine blk_drew ?_ | refine blk_alloc ?_ _)); exact BK101.out) Tryd.underlying50 rfl (by kernel_rfl)) rfl ?_
         exact ⟨_, _, by first | rfl | (simp [errW_none, errW_some] <;> rfl) | (simp [*, errW_none, errW_some] <;> rfl), by first | exact Kd.R_nil _ _ _ _ _ | exact Kd.N_nil _ _ _ _ _ | exact Kd.V_nil _ _ _ _ _ | exact Kd.Q_nil _ _ _ _ _ | exact Kd.S_nil _ _ _ _ _, by first | exact Kd.R_nil _ _ _ _ _ | exact Kd.N_nil _ _ _ _ _ | exact Kd.V_nil _ _ _ _ _ | exact Kd.Q_nil _ _ _ _ _ | exact Kd.S_nil _ _ _ _ _, bB⟩
        ·rw [if_neg c11] at H
         have c11b0 : (x1_2 == (a0.size : Int)) = false := beq_eq_false_iff_ne.mpr c11
         have c11b1 : (x1_2 != (a0.size : Int)) = true := bne_iff_ne.mpr c11
         by_cases c14 : 0 ≤ x1_2
         ·rw [if_pos c14] at H
          have c14b0 : decide (0 ≤ x1_2) = true := decide_eq_true c14
          clear c14
          by_cases c15 : x1_2 < (a0.size : Int)
          ·rw [if_pos c15] at H
           have c15b0 : decide (x1_2 < (a0.size : Int)) = true := decide_eq_true c15
           clear c15
           by_cases c17 : (bt a0 x1_2) = 46
           ·rw [if_pos c17] at H
            have c17b0 : ((bt a0 x1_2) == 46) = true := beq_iff_eq.mpr c17
            have c17b1 : ((bt a0 x1_2) != 46) = false := bne_eq_false_iff_eq.mpr c17
            clear c17
            replace H := Option.bind_eq_some_iff.mp H
            obtain ⟨⟨t103, t104, t105⟩, A180, H⟩ := H
            replace H : (if t105 = 0 then (if x6_2 = 0 then (ferruleref03_Parse.l0 k2 a0 (wrap64 ((wrap64 (x1_2 + 1)) + t104)) (wrap64 (x6_2 + 1)) t103 x103001_2 x103002_2) else (if x6_2 = 1 then (ferruleref03_Parse.l0 k2 a0 (wrap64 ((wrap64 (x1_2 + 1)) + t104)) (wrap64 (x6_2 + 1)) x103000_2 t103 x103002_2) else (if x6_2 = 2 then (ferruleref03_Parse.l0 k2 a0 (wrap64 ((wrap64 (x1_2 + 1)) + t104)) (wrap64 (x6_2 + 1)) x103000_2 x103001_2 t103) else (none)))) else (some (0, 0, 0, ([] : List ByteArray), ([] : List ByteArray), wrap64 (x1_2 + 1), t105))) = some (r1, r2, r3, r4, r5, r6, r7) := H
            have A18 := Aside0.mk A180
            clear A180
            by_cases c19 : t105 = 0
            ·rw [if_pos c19] at H
             have c19b0 : (t105 == 0) = true := beq_iff_eq.mpr c19
             have c19b1 : (t105 != 0) = false := bne_eq_false_iff_eq.mpr c19
             clear c19
             by_cases c20 : x6_2 = 0
             ·rw [if_pos c20] at H
              have c20b0 : (x6_2 == 0) = true := beq_iff_eq.mpr c20
              have c20b1 : (x6_2 != 0) = false := bne_eq_false_iff_eq.mpr c20
              clear c20
              have H' := Aside0.mk H
              clear H
              have p16 : 0 ≤ (x1_2 : Int) := oD
              have q16 : x1_2 < (a0.size : Int) := oD
              have hx16 := bt_at a0 x1_2
              replace p16 := eq_true p16
              replace q16 := eq_true q16
              go_wp2_with (first | ((with_reducible refine gate_callee (f := 61) rfl ?_); refine goesL_ (some 42) rfl rfl Tryd.func61 (by kernel_rfl) rfl #[.string a0, .int .i64 (wrap64 (x1_2 + 1))] rfl bM ?_; (with_reducible refine (ferruleref01_Parse.calls k2 a0 (wrap64 (x1_2 + 1)) t103 t104 t105 _ A18.out).mono ?_); rintro e w21 ⟨rfl, hb⟩; refine ⟨_, rfl, ?_⟩; replace BK101 := aK BK101 hb; replace BK102 := aK BK102 hb; replace HB := aB HB hb; (try clear hb); (try clear hb2); (try clear hk); (try clear hi)) | ((with_reducible refine gate_dst (N := 7) rfl ?_); (try (refine gate_guard (by rfl) ?_; dsimp only)); refine box_event ?hg (N := 7) ?hd (cs := #[.int .u64 0, .int .i64 0, .int .i64 0]) (t := 75) ?hr ?_; (case hd => rfl); (case hg => rfl); (case hr => first | (go_simp; done) | (go_simp; rfl)); intro gb106 hg w22 hbox hb; have BK106 := Aside0.mk hbox; have GW106 := Aside0.mk ((by rw [hg]; exact (below_size bB) : w.heap.size ≤ gb106)); have GE106 := Aside0.mk ((by rw [hg]; exact (below_size bB) : w.heap.size ≤ gb106)); replace HB := aB HB hb; have NB101_106 := Aside0.mk ((by rw [hg]; exact Nat.ne_of_lt (blk_lt (g := gb101) (o := .cells #[.int .u64 x102000_2, .int .u64 x102001_2, .int .u64 x102002_2, .slice none 0 0, .slice none 0 0, .int .i64 x102005_2, .int .i64 x102006_2] 50 (0, 0)) (aKw BK101)) : gb101 ≠ gb106)); have NB106_101 := Aside0.mk ((by rw [hg]; exact Nat.ne_of_gt (blk_lt (g := gb101) (o := .cells #[.int .u64 x102000_2, .int .u64 x102001_2, .int .u64 x102002_2, .slice none 0 0, .slice none 0 0, .int .i64 x102005_2, .int .i64 x102006_2] 50 (0, 0)) (aKw BK101)) : gb106 ≠ gb101)); replace BK101 := aK BK101 hb; have NB102_106 := Aside0.mk ((by rw [hg]; exact Nat.ne_of_lt (blk_lt (g := gb102) (o := .cells #[.int .u64 x103000_2, .int .u64 x103001_2, .int .u64 x103002_2] 67 (0, 0)) (aKw BK102)) : gb102 ≠ gb106)); have NB106_102 := Aside0.mk ((by rw [hg]; exact Nat.ne_of_gt (blk_lt (g := gb102) (o := .cells #[.int .u64 x103000_2, .int .u64 x103001_2, .int .u64 x103002_2] 67 (0, 0)) (aKw BK102)) : gb106 ≠ gb102)); replace BK102 := aK BK102 hb; clear hb hbox hg; have hnb23 := NB106_101.out; have hnc23 := NB101_106.out; have hnb24 := NB106_102.out; have hnc24 := NB102_106.out; have hcz25_0 : w22.cell? ⟨gb106, 0, none⟩ = some (.int .u64 0) := (blk_cell BK106.out 0).trans rfl; have hcz25_1 : w22.cell? ⟨gb106, 1, none⟩ = some (.int .i64 0) := (blk_cell BK106.out 1).trans rfl; have hcz25_2 : w22.cell? ⟨gb106, 2, none⟩ = some (.int .i64 0) := (blk_cell BK106.out 2).trans rfl; have hfz25_0 := blk_frozen BK106.out 0; have hfz25_1 := blk_frozen BK106.out 1; have hfz25_2 := blk_frozen BK106.out 2; have ix26 : (x6_2 : Int) = 0 := (by first | (with_reducible assumption) | assumption | exact eq_of_beq bA | omega); have p26 : (0 ≤ (x6_2 : Int)) = True := eq_true (by omega); have q26 : ((x6_2 : Int) < 3) = True := eq_true (by omega); have t26 : (x6_2 : Int).toNat = 0 := (by omega); clear ix26; have hnb27 := NB102_101.out; have hnc27 := NB101_102.out; have hcz28_0 : w22.cell? ⟨gb102, 0, none⟩ = some (.int .u64 x103000_2) := (blk_cell BK102.out 0).trans rfl; have hcz28_1 : w22.cell? ⟨gb102, 1, none⟩ = some (.int .u64 x103001_2) := (blk_cell BK102.out 1).trans rfl; have hcz28_2 : w22.cell? ⟨gb102, 2, none⟩ = some (.int .u64 x103002_2) := (blk_cell BK102.out 2).trans rfl; have hfz28_0 := blk_frozen BK102.out 0; have hfz28_1 := blk_frozen BK102.out 1; have hfz28_2 := blk_frozen BK102.out 2))
              go_roundg k2
              case measure => have := HJ2.out; have := HK2.out; omega
              case rel => exact ⟨(wrap64 ((wrap64 (x1_2 + 1)) + t104)), (wrap64 (x6_2 + 1)), (x102000_2), (x102001_2), (x102002_2), (x102005_2), (x102006_2), (t103), (x103001_2), (x103002_2), bS, bS, H', ⟨by have := HJ2.out; have := HK2.out; omega⟩, ⟨aKf BK101⟩, ⟨by (with_reducible repeat (first | refine blk_drewN ?_ _ | refine blk_drew ?_ | refine blk_alloc ?_ _)); refine blk_put (cs := #[.int .u64 x103000_2, .int .u64 x103001_2, .int .u64 x103002_2]) ?_ 0 _ rfl; (with_reducible repeat (first | refine blk_drewN ?_ _ | refine blk_drew ?_ | refine blk_alloc ?_ _)); refine blk_far ?_ NB102_106.out _; (with_reducible repeat (first | refine blk_drewN ?_ _ | refine blk_drew ?_ | refine blk_alloc ?_ _)); refine blk_far ?_ NB102_106.out _; (with_reducible repeat (first | refine blk_drewN ?_ _ | refine blk_drew ?_ | refine blk_alloc ?_ _)); refine blk_far ?_ NB102_106.out _; (with_reducible repeat (first | refine blk_drewN ?_ _ | refine blk_drew ?_ | refine blk_alloc ?_ _)); exact BK102.out⟩, ⟨bB⟩⟩
             ·rw [if_neg c20] at H
              have c20b0 : (x6_2 == 0) = false := beq_eq_false_iff_ne.mpr c20
              have c20b1 : (x6_2 != 0) = true := bne_iff_ne.mpr c20
              by_cases c29 : x6_2 = 1
              ·rw [if_pos c29] at H
               have c29b0 : (x6_2 == 1) = true := beq_iff_eq.mpr c29
               have c29b1 : (x6_2 != 1) = false := bne_eq_false_iff_eq.mpr c29
               clear c29
               have H' := Aside0.mk H
               clear H
               have p16 : 0 ≤ (x1_2 : Int) := oD
               have q16 : x1_2 < (a0.size : Int) := oD
               have hx16 := bt_at a0 x1_2
               replace p16 := eq_true p16
               replace q16 := eq_true q16
               go_wp2_with (first | ((with_reducible refine gate_callee (f := 61) rfl ?_); refine goesL_ (some 42) rfl rfl Tryd.func61 (by kernel_rfl) rfl #[.string a0, .int .i64 (wrap64 (x1_2 + 1))] rfl bM ?_; (with_reducible refine (ferruleref01_Parse.calls k2 a0 (wrap64 (x1_2 + 1)) t103 t104 t105 _ A18.out).mono ?_); rintro e w30 ⟨rfl, hb⟩; refine ⟨_, rfl, ?_⟩; replace BK101 := aK BK101 hb; replace BK102 := aK BK102 hb; replace HB := aB HB hb; (try clear hb); (try clear hb2); (try clear hk); (try clear hi)) | ((with_reducible refine gate_dst (N := 7) rfl ?_); (try (refine gate_guard (by rfl) ?_; dsimp only)); refine box_event ?hg (N := 7) ?hd (cs := #[.int .u64 0, .int .i64 0, .int .i64 0]) (t := 75) ?hr ?_; (case hd => rfl); (case hg => rfl); (case hr => first | (go_simp; done) | (go_simp; rfl)); intro gb106 hg w31 hbox hb; have BK106 := Aside0.mk hbox; have GW106 := Aside0.mk ((by rw [hg]; exact (below_size bB) : w.heap.size ≤ gb106)); have GE106 := Aside0.mk ((by rw [hg]; exact (below_size bB) : w.heap.size ≤ gb106)); replace HB := aB HB hb; have NB101_106 := Aside0.mk ((by rw [hg]; exact Nat.ne_of_lt (blk_lt (g := gb101) (o := .cells #[.int .u64 x102000_2, .int .u64 x102001_2, .int .u64 x102002_2, .slice none 0 0, .slice none 0 0, .int .i64 x102005_2, .int .i64 x102006_2] 50 (0, 0)) (aKw BK101)) : gb101 ≠ gb106)); have NB106_101 := Aside0.mk ((by rw [hg]; exact Nat.ne_of_gt (blk_lt (g := gb101) (o := .cells #[.int .u64 x102000_2, .int .u64 x102001_2, .int .u64 x102002_2, .slice none 0 0, .slice none 0 0, .int .i64 x102005_2, .int .i64 x102006_2] 50 (0, 0)) (aKw BK101)) : gb106 ≠ gb101)); replace BK101 := aK BK101 hb; have NB102_106 := Aside0.mk ((by rw [hg]; exact Nat.ne_of_lt (blk_lt (g := gb102) (o := .cells #[.int .u64 x103000_2, .int .u64 x103001_2, .int .u64 x103002_2] 67 (0, 0)) (aKw BK102)) : gb102 ≠ gb106)); have NB106_102 := Aside0.mk ((by rw [hg]; exact Nat.ne_of_gt (blk_lt (g := gb102) (o := .cells #[.int .u64 x103000_2, .int .u64 x103001_2, .int .u64 x103002_2] 67 (0, 0)) (aKw BK102)) : gb106 ≠ gb102)); replace BK102 := aK BK102 hb; clear hb hbox hg; have hnb32 := NB106_101.out; have hnc32 := NB101_106.out; have hnb33 := NB106_102.out; have hnc33 := NB102_106.out; have hcz34_0 : w31.cell? ⟨gb106, 0, none⟩ = some (.int .u64 0) := (blk_cell BK106.out 0).trans rfl; have hcz34_1 : w31.cell? ⟨gb106, 1, none⟩ = some (.int .i64 0) := (blk_cell BK106.out 1).trans rfl; have hcz34_2 : w31.cell? ⟨gb106, 2, none⟩ = some (.int .i64 0) := (blk_cell BK106.out 2).trans rfl; have hfz34_0 := blk_frozen BK106.out 0; have hfz34_1 := blk_frozen BK106.out 1; have hfz34_2 := blk_frozen BK106.out 2; have ix35 : (x6_2 : Int) = 1 := (by first | (with_reducible assumption) | assumption | exact eq_of_beq bA | omega); have p35 : (0 ≤ (x6_2 : Int)) = True := eq_true (by omega); have q35 : ((x6_2 : Int) < 3) = True := eq_true (by omega); have t35 : (x6_2 : Int).toNat = 1 := (by omega); clear ix35; have hnb36 := NB102_101.out; have hnc36 := NB101_102.out; have hcz37_0 : w31.cell? ⟨gb102, 0, none⟩ = some (.int .u64 x103000_2) := (blk_cell BK102.out 0).trans rfl; have hcz37_1 : w31.cell? ⟨gb102, 1, none⟩ = some (.int .u64 x103001_2) := (blk_cell BK102.out 1).trans rfl; have hcz37_2 : w31.cell? ⟨gb102, 2, none⟩ = some (.int .u64 x103002_2) := (blk_cell BK102.out 2).trans rfl; have hfz37_0 := blk_frozen BK102.out 0; have hfz37_1 := blk_frozen BK102.out 1; have hfz37_2 := blk_frozen BK102.out 2))
               go_roundg k2
               case measure => have := HJ2.out; have := HK2.out; omega
               case rel => exact ⟨(wrap64 ((wrap64 (x1_2 + 1)) + t104)), (wrap64 (x6_2 + 1)), (x102000_2), (x102001_2), (x102002_2), (x102005_2), (x102006_2), (x103000_2), (t103), (x103002_2), bS, bS, H', ⟨by have := HJ2.out; have := HK2.out; omega⟩, ⟨aKf BK101⟩, ⟨by (with_reducible repeat (first | refine blk_drewN ?_ _ | refine blk_drew ?_ | refine blk_alloc ?_ _)); refine blk_put (cs := #[.int .u64 x103000_2, .int .u64 x103001_2, .int .u64 x103002_2]) ?_ 1 _ rfl; (with_reducible repeat (first | refine blk_drewN ?_ _ | refine blk_drew ?_ | refine blk_alloc ?_ _)); refine blk_far ?_ NB102_106.out _; (with_reducible repeat (first | refine blk_drewN ?_ _ | refine blk_drew ?_ | refine blk_alloc ?_ _)); refine blk_far ?_ NB102_106.out _; (with_reducible repeat (first | refine blk_drewN ?_ _ | refine blk_drew ?_ | refine blk_alloc ?_ _)); refine blk_far ?_ NB102_106.out _; (with_reducible repeat (first | refine blk_drewN ?_ _ | refine blk_drew ?_ | refine blk_alloc ?_ _)); exact BK102.out⟩, ⟨bB⟩⟩
              ·rw [if_neg c29] at H
               have c29b0 : (x6_2 == 1) = false := beq_eq_false_iff_ne.mpr c29
               have c29b1 : (x6_2 != 1) = true := bne_iff_ne.mpr c29
               by_cases c38 : x6_2 = 2
               ·rw [if_pos c38] at H
                have c38b0 : (x6_2 == 2) = true := beq_iff_eq.mpr c38
                have c38b1 : (x6_2 != 2) = false := bne_eq_false_iff_eq.mpr c38
                clear c38
                have H' := Aside0.mk H
                clear H
                have p16 : 0 ≤ (x1_2 : Int) := oD
                have q16 : x1_2 < (a0.size : Int) := oD
                have hx16 := bt_at a0 x1_2
                replace p16 := eq_true p16
                replace q16 := eq_true q16
                go_wp2_with (first | ((with_reducible refine gate_callee (f := 61) rfl ?_); refine goesL_ (some 42) rfl rfl Tryd.func61 (by kernel_rfl) rfl #[.string a0, .int .i64 (wrap64 (x1_2 + 1))] rfl bM ?_; (with_reducible refine (ferruleref01_Parse.calls k2 a0 (wrap64 (x1_2 + 1)) t103 t104 t105 _ A18.out).mono ?_); rintro e w39 ⟨rfl, hb⟩; refine ⟨_, rfl, ?_⟩; replace BK101 := aK BK101 hb; replace BK102 := aK BK102 hb; replace HB := aB HB hb; (try clear hb); (try clear hb2); (try clear hk); (try clear hi)) | ((with_reducible refine gate_dst (N := 7) rfl ?_); (try (refine gate_guard (by rfl) ?_; dsimp only)); refine box_event ?hg (N := 7) ?hd (cs := #[.int .u64 0, .int .i64 0, .int .i64 0]) (t := 75) ?hr ?_; (case hd => rfl); (case hg => rfl); (case hr => first | (go_simp; done) | (go_simp; rfl)); intro gb106 hg w40 hbox hb; have BK106 := Aside0.mk hbox; have GW106 := Aside0.mk ((by rw [hg]; exact (below_size bB) : w.heap.size ≤ gb106)); have GE106 := Aside0.mk ((by rw [hg]; exact (below_size bB) : w.heap.size ≤ gb106)); replace HB := aB HB hb; have NB101_106 := Aside0.mk ((by rw [hg]; exact Nat.ne_of_lt (blk_lt (g := gb101) (o := .cells #[.int .u64 x102000_2, .int .u64 x102001_2, .int .u64 x102002_2, .slice none 0 0, .slice none 0 0, .int .i64 x102005_2, .int .i64 x102006_2] 50 (0, 0)) (aKw BK101)) : gb101 ≠ gb106)); have NB106_101 := Aside0.mk ((by rw [hg]; exact Nat.ne_of_gt (blk_lt (g := gb101) (o := .cells #[.int .u64 x102000_2, .int .u64 x102001_2, .int .u64 x102002_2, .slice none 0 0, .slice none 0 0, .int .i64 x102005_2, .int .i64 x102006_2] 50 (0, 0)) (aKw BK101)) : gb106 ≠ gb101)); replace BK101 := aK BK101 hb; have NB102_106 := Aside0.mk ((by rw [hg]; exact Nat.ne_of_lt (blk_lt (g := gb102) (o := .cells #[.int .u64 x103000_2, .int .u64 x103001_2, .int .u64 x103002_2] 67 (0, 0)) (aKw BK102)) : gb102 ≠ gb106)); have NB106_102 := Aside0.mk ((by rw [hg]; exact Nat.ne_of_gt (blk_lt (g := gb102) (o := .cells #[.int .u64 x103000_2, .int .u64 x103001_2, .int .u64 x103002_2] 67 (0, 0)) (aKw BK102)) : gb106 ≠ gb102)); replace BK102 := aK BK102 hb; clear hb hbox hg; have hnb41 := NB106_101.out; have hnc41 := NB101_106.out; have hnb42 := NB106_102.out; have hnc42 := NB102_106.out; have hcz43_0 : w40.cell? ⟨gb106, 0, none⟩ = some (.int .u64 0) := (blk_cell BK106.out 0).trans rfl; have hcz43_1 : w40.cell? ⟨gb106, 1, none⟩ = some (.int .i64 0) := (blk_cell BK106.out 1).trans rfl; have hcz43_2 : w40.cell? ⟨gb106, 2, none⟩ = some (.int .i64 0) := (blk_cell BK106.out 2).trans rfl; have hfz43_0 := blk_frozen BK106.out 0; have hfz43_1 := blk_frozen BK106.out 1; have hfz43_2 := blk_frozen BK106.out 2; have ix44 : (x6_2 : Int) = 2 := (by first | (with_reducible assumption) | assumption | exact eq_of_beq bA | omega); have p44 : (0 ≤ (x6_2 : Int)) = True := eq_true (by omega); have q44 : ((x6_2 : Int) < 3) = True := eq_true (by omega); have t44 : (x6_2 : Int).toNat = 2 := (by omega); clear ix44; have hnb45 := NB102_101.out; have hnc45 := NB101_102.out; have hcz46_0 : w40.cell? ⟨gb102, 0, none⟩ = some (.int .u64 x103000_2) := (blk_cell BK102.out 0).trans rfl; have hcz46_1 : w40.cell? ⟨gb102, 1, none⟩ = some (.int .u64 x103001_2) := (blk_cell BK102.out 1).trans rfl; have hcz46_2 : w40.cell? ⟨gb102, 2, none⟩ = some (.int .u64 x103002_2) := (blk_cell BK102.out 2).trans rfl; have hfz46_0 := blk_frozen BK102.out 0; have hfz46_1 := blk_frozen BK102.out 1; have hfz46_2 := blk_frozen BK102.out 2))
                go_roundg k2
                case measure => have := HJ2.out; have := HK2.out; omega
                case rel => exact ⟨(wrap64 ((wrap64 (x1_2 + 1)) + t104)), (wrap64 (x6_2 + 1)), (x102000_2), (x102001_2), (x102002_2), (x102005_2), (x102006_2), (x103000_2), (x103001_2), (t103), bS, bS, H', ⟨by have := HJ2.out; have := HK2.out; omega⟩, ⟨aKf BK101⟩, ⟨by (with_reducible repeat (first | refine blk_drewN ?_ _ | refine blk_drew ?_ | refine blk_alloc ?_ _)); refine blk_put (cs := #[.int .u64 x103000_2, .int .u64 x103001_2, .int .u64 x103002_2]) ?_ 2 _ rfl; (with_reducible repeat (first | refine blk_drewN ?_ _ | refine blk_drew ?_ | refine blk_alloc ?_ _)); refine blk_far ?_ NB102_106.out _; (with_reducible repeat (first | refine blk_drewN ?_ _ | refine blk_drew ?_ | refine blk_alloc ?_ _)); refine blk_far ?_ NB102_106.out _; (with_reducible repeat (first | refine blk_drewN ?_ _ | refine blk_drew ?_ | refine blk_alloc ?_ _)); refine blk_far ?_ NB102_106.out _; (with_reducible repeat (first | refine blk_drewN ?_ _ | refine blk_drew ?_ | refine blk_alloc ?_ _)); exact BK102.out⟩, ⟨bB⟩⟩
               ·rw [if_neg c38] at H
                exact absurd H (by simp)
            ·rw [if_neg c19] at H
             have c19b0 : (t105 == 0) = false := beq_eq_false_iff_ne.mpr c19
             have c19b1 : (t105 != 0) = true := bne_iff_ne.mpr c19
             simp only [Option.some.injEq, Prod.mk.injEq] at H
             obtain ⟨rfl, rfl, rfl, rfl, rfl, rfl, rfl⟩ := H
             have p16 : 0 ≤ (x1_2 : Int) := oD
             have q16 : x1_2 < (a0.size : Int) := oD
             have hx16 := bt_at a0 x1_2
             replace p16 := eq_true p16
             replace q16 := eq_true q16
             go_wp2_with (first | ((with_reducible refine gate_callee (f := 61) rfl ?_); refine goesL_ (some 42) rfl rfl Tryd.func61 (by kernel_rfl) rfl #[.string a0, .int .i64 (wrap64 (x1_2 + 1))] rfl bM ?_; (with_reducible refine (ferruleref01_Parse.calls k2 a0 (wrap64 (x1_2 + 1)) t103 t104 t105 _ A18.out).mono ?_); rintro e w47 ⟨rfl, hb⟩; refine ⟨_, rfl, ?_⟩; replace BK101 := aK BK101 hb; replace BK102 := aK BK102 hb; replace HB := aB HB hb; (try clear hb); (try clear hb2); (try clear hk); (try clear hi)) | ((with_reducible refine gate_dst (N := 7) rfl ?_); (try (refine gate_guard (by rfl) ?_; dsimp only)); refine box_event ?hg (N := 7) ?hd (cs := #[.int .u64 0, .int .i64 0, .int .i64 0]) (t := 75) ?hr ?_; (case hd => rfl); (case hg => rfl); (case hr => first | (go_simp; done) | (go_simp; rfl)); intro gb106 hg w48 hbox hb; have BK106 := Aside0.mk hbox; have GW106 := Aside0.mk ((by rw [hg]; exact (below_size bB) : w.heap.size ≤ gb106)); have GE106 := Aside0.mk ((by rw [hg]; exact (below_size bB) : w.heap.size ≤ gb106)); replace HB := aB HB hb; have NB101_106 := Aside0.mk ((by rw [hg]; exact Nat.ne_of_lt (blk_lt (g := gb101) (o := .cells #[.int .u64 x102000_2, .int .u64 x102001_2, .int .u64 x102002_2, .slice none 0 0, .slice none 0 0, .int .i64 x102005_2, .int .i64 x102006_2] 50 (0, 0)) (aKw BK101)) : gb101 ≠ gb106)); have NB106_101 := Aside0.mk ((by rw [hg]; exact Nat.ne_of_gt (blk_lt (g := gb101) (o := .cells #[.int .u64 x102000_2, .int .u64 x102001_2, .int .u64 x102002_2, .slice none 0 0, .slice none 0 0, .int .i64 x102005_2, .int .i64 x102006_2] 50 (0, 0)) (aKw BK101)) : gb106 ≠ gb101)); replace BK101 := aK BK101 hb; have NB102_106 := Aside0.mk ((by rw [hg]; exact Nat.ne_of_lt (blk_lt (g := gb102) (o := .cells #[.int .u64 x103000_2, .int .u64 x103001_2, .int .u64 x103002_2] 67 (0, 0)) (aKw BK102)) : gb102 ≠ gb106)); have NB106_102 := Aside0.mk ((by rw [hg]; exact Nat.ne_of_gt (blk_lt (g := gb102) (o := .cells #[.int .u64 x103000_2, .int .u64 x103001_2, .int .u64 x103002_2] 67 (0, 0)) (aKw BK102)) : gb106 ≠ gb102)); replace BK102 := aK BK102 hb; clear hb hbox hg; have hnb49 := NB106_101.out; have hnc49 := NB101_106.out; have hnb50 := NB106_102.out; have hnc50 := NB102_106.out; have hcz51_0 : w48.cell? ⟨gb106, 0, none⟩ = some (.int .u64 0) := (blk_cell BK106.out 0).trans rfl; have hcz51_1 : w48.cell? ⟨gb106, 1, none⟩ = some (.int .i64 0) := (blk_cell BK106.out 1).trans rfl; have hcz51_2 : w48.cell? ⟨gb106, 2, none⟩ = some (.int .i64 0) := (blk_cell BK106.out 2).trans rfl; have hfz51_0 := blk_frozen BK106.out 0; have hfz51_1 := blk_frozen BK106.out 1; have hfz51_2 := blk_frozen BK106.out 2; have hnb52 := NB101_102.out; have hnc52 := NB102_101.out; have hcz53_0 : w48.cell? ⟨gb101, 0, none⟩ = some (.int .u64 x102000_2) := (blk_cell BK101.out 0).trans rfl; have hcz53_1 : w48.cell? ⟨gb101, 1, none⟩ = some (.int .u64 x102001_2) := (blk_cell BK101.out 1).trans rfl; have hcz53_2 : w48.cell? ⟨gb101, 2, none⟩ = some (.int .u64 x102002_2) := (blk_cell BK101.out 2).trans rfl; have hcz53_3 : w48.cell? ⟨gb101, 3, none⟩ = some (.slice none 0 0) := (blk_cell BK101.out 3).trans rfl; have hcz53_4 : w48.cell? ⟨gb101, 4, none⟩ = some (.slice none 0 0) := (blk_cell BK101.out 4).trans rfl; have hcz53_5 : w48.cell? ⟨gb101, 5, none⟩ = some (.int .i64 x102005_2) := (blk_cell BK101.out 5).trans rfl; have hcz53_6 : w48.cell? ⟨gb101, 6, none⟩ = some (.int .i64 x102006_2) := (blk_cell BK101.out 6).trans rfl; have hfz53_0 := blk_frozen BK101.out 0; have hfz53_1 := blk_frozen BK101.out 1; have hfz53_2 := blk_frozen BK101.out 2; have hfz53_3 := blk_frozen BK101.out 3; have hfz53_4 := blk_frozen BK101.out 4; have hfz53_5 := blk_frozen BK101.out 5; have hfz53_6 := blk_frozen BK101.out 6))
             refine bodyPost_ret (results_cell_row rfl _ _ gb101 50 #[.int .u64 0, .int .u64 0, .int .u64 0, .slice none 0 0, .slice none 0 0, .int .i64 (wrap64 (x1_2 + 1)), .int .i64 t105] (0, 0) _ rfl (by (with_reducible repeat (first | refine blk_drewN ?_ _ | refine blk_drew ?_ | refine blk_alloc ?_ _)); refine blk_put (cs := #[.int .u64 0, .int .u64 0, .int .u64 0, .slice none 0 0, .slice none 0 0, .int .i64 (wrap64 (x1_2 + 1)), .int .i64 x102006_2]) ?_ 6 _ rfl; (with_reducible repeat (first | refine blk_drewN ?_ _ | refine blk_drew ?_ | refine blk_alloc ?_ _)); refine blk_put (cs := #[.int .u64 0, .int .u64 0, .int .u64 0, .slice none 0 0, .slice none 0 0, .int .i64 x102005_2, .int .i64 x102006_2]) ?_ 5 _ rfl; (with_reducible repeat (first | refine blk_drewN ?_ _ | refine blk_drew ?_ | refine blk_alloc ?_ _)); refine blk_put (cs := #[.int .u64 0, .int .u64 0, .int .u64 0, .slice none 0 0, .slice none 0 0, .int .i64 x102005_2, .int .i64 x102006_2]) ?_ 4 _ rfl; (with_reducible repeat (first | refine blk_drewN ?_ _ | refine blk_drew ?_ | refine blk_alloc ?_ _)); refine blk_put (cs := #[.int .u64 0, .int .u64 0, .int .u64 0, .slice none 0 0, .slice none 0 0, .int .i64 x102005_2, .int .i64 x102006_2]) ?_ 3 _ rfl; (with_reducible repeat (first | refine blk_drewN ?_ _ | refine blk_drew ?_ | refine blk_alloc ?_ _)); refine blk_put (cs := #[.int .u64 0, .int .u64 0, .int .u64 x102002_2, .slice none 0 0, .slice none 0 0, .int .i64 x102005_2, .int .i64 x102006_2]) ?_ 2 _ rfl; (with_reducible repeat (first | refine blk_drewN ?_ _ | refine blk_drew ?_ | refine blk_alloc ?_ _)); refine blk_put (cs := #[.int .u64 0, .int .u64 x102001_2, .int .u64 x102002_2, .slice none 0 0, .slice none 0 0, .int .i64 x102005_2, .int .i64 x102006_2]) ?_ 1 _ rfl; (with_reducible repeat (first | refine blk_drewN ?_ _ | refine blk_drew ?_ | refine blk_alloc ?_ _)); refine blk_put (cs := #[.int .u64 x102000_2, .int .u64 x102001_2, .int .u64 x102002_2, .slice none 0 0, .slice none 0 0, .int .i64 x102005_2, .int .i64 x102006_2]) ?_ 0 _ rfl; (with_reducible repeat (first | refine blk_drewN ?_ _ | refine blk_drew ?_ | refine blk_alloc ?_ _)); refine blk_far ?_ NB101_106.out _; (with_reducible repeat (first | refine blk_drewN ?_ _ | refine blk_drew ?_ | refine blk_alloc ?_ _)); refine blk_far ?_ NB101_106.out _; (with_reducible repeat (first | refine blk_drewN ?_ _ | refine blk_drew ?_ | refine blk_alloc ?_ _)); refine blk_far ?_ NB101_106.out _; (with_reducible repeat (first | refine blk_drewN ?_ _ | refine blk_drew ?_ | refine blk_alloc ?_ _)); exact BK101.out) Tryd.underlying50 rfl (by kernel_rfl)) rfl ?_
             exact ⟨_, _, by first | rfl | (simp [errW_none, errW_some] <;> rfl) | (simp [*, errW_none, errW_some] <;> rfl), by first | exact Kd.R_nil _ _ _ _ _ | exact Kd.N_nil _ _ _ _ _ | exact Kd.V_nil _ _ _ _ _ | exact Kd.Q_nil _ _ _ _ _ | exact Kd.S_nil _ _ _ _ _, by first | exact Kd.R_nil _ _ _ _ _ | exact Kd.N_nil _ _ _ _ _ | exact Kd.V_nil _ _ _ _ _ | exact Kd.Q_nil _ _ _ _ _ | exact Kd.S_nil _ _ _ _ _, bB⟩
           ·rw [if_neg c17] at H
            have c17b0 : ((bt a0 x1_2) == 46) = false := beq_eq_false_iff_ne.mpr c17
            have c17b1 : ((bt a0 x1_2) != 46) = true := bne_iff_ne.mpr c17
            simp only [Option.some.injEq, Prod.mk.injEq] at H
            obtain ⟨rfl, rfl, rfl, rfl, rfl, rfl, rfl⟩ := H
            have p16 : 0 ≤ (x1_2 : Int) := oD
            have q16 : x1_2 < (a0.size : Int) := oD
            have hx16 := bt_at a0 x1_2
            replace p16 := eq_true p16
            replace q16 := eq_true q16
            have hnb54 := NB101_102.out
            have hnc54 := NB102_101.out
            have hcz55_0 : wr.cell? ⟨gb101, 0, none⟩ = some (.int .u64 x102000_2) := (blk_cell BK101.out 0).trans rfl
            have hcz55_1 : wr.cell? ⟨gb101, 1, none⟩ = some (.int .u64 x102001_2) := (blk_cell BK101.out 1).trans rfl
            have hcz55_2 : wr.cell? ⟨gb101, 2, none⟩ = some (.int .u64 x102002_2) := (blk_cell BK101.out 2).trans rfl
            have hcz55_3 : wr.cell? ⟨gb101, 3, none⟩ = some (.slice none 0 0) := (blk_cell BK101.out 3).trans rfl
            have hcz55_4 : wr.cell? ⟨gb101, 4, none⟩ = some (.slice none 0 0) := (blk_cell BK101.out 4).trans rfl
            have hcz55_5 : wr.cell? ⟨gb101, 5, none⟩ = some (.int .i64 x102005_2) := (blk_cell BK101.out 5).trans rfl
            have hcz55_6 : wr.cell? ⟨gb101, 6, none⟩ = some (.int .i64 x102006_2) := (blk_cell BK101.out 6).trans rfl
            have hfz55_0 := blk_frozen BK101.out 0
            have hfz55_1 := blk_frozen BK101.out 1
            have hfz55_2 := blk_frozen BK101.out 2
            have hfz55_3 := blk_frozen BK101.out 3
            have hfz55_4 := blk_frozen BK101.out 4
            have hfz55_5 := blk_frozen BK101.out 5
            have hfz55_6 := blk_frozen BK101.out 6
            go_wp2
            refine bodyPost_ret (results_cell_row rfl _ _ gb101 50 #[.int .u64 0, .int .u64 0, .int .u64 0, .slice none 0 0, .slice none 0 0, .int .i64 x1_2, .int .i64 3] (0, 0) _ rfl (by (with_reducible repeat (first | refine blk_drewN ?_ _ | refine blk_drew ?_ | refine blk_alloc ?_ _)); refine blk_put (cs := #[.int .u64 0, .int .u64 0, .int .u64 0, .slice none 0 0, .slice none 0 0, .int .i64 x1_2, .int .i64 x102006_2]) ?_ 6 _ rfl; (with_reducible repeat (first | refine blk_drewN ?_ _ | refine blk_drew ?_ | refine blk_alloc ?_ _)); refine blk_put (cs := #[.int .u64 0, .int .u64 0, .int .u64 0, .slice none 0 0, .slice none 0 0, .int .i64 x102005_2, .int .i64 x102006_2]) ?_ 5 _ rfl; (with_reducible repeat (first | refine blk_drewN ?_ _ | refine blk_drew ?_ | refine blk_alloc ?_ _)); refine blk_put (cs := #[.int .u64 0, .int .u64 0, .int .u64 0, .slice none 0 0, .slice none 0 0, .int .i64 x102005_2, .int .i64 x102006_2]) ?_ 4 _ rfl; (with_reducible repeat (first | refine blk_drewN ?_ _ | refine blk_drew ?_ | refine blk_alloc ?_ _)); refine blk_put (cs := #[.int .u64 0, .int .u64 0, .int .u64 0, .slice none 0 0, .slice none 0 0, .int .i64 x102005_2, .int .i64 x102006_2]) ?_ 3 _ rfl; (with_reducible repeat (first | refine blk_drewN ?_ _ | refine blk_drew ?_ | refine blk_alloc ?_ _)); refine blk_put (cs := #[.int .u64 0, .int .u64 0, .int .u64 x102002_2, .slice none 0 0, .slice none 0 0, .int .i64 x102005_2, .int .i64 x102006_2]) ?_ 2 _ rfl; (with_reducible repeat (first | refine blk_drewN ?_ _ | refine blk_drew ?_ | refine blk_alloc ?_ _)); refine blk_put (cs := #[.int .u64 0, .int .u64 x102001_2, .int .u64 x102002_2, .slice none 0 0, .slice none 0 0, .int .i64 x102005_2, .int .i64 x102006_2]) ?_ 1 _ rfl; (with_reducible repeat (first | refine blk_drewN ?_ _ | refine blk_drew ?_ | refine blk_alloc ?_ _)); refine blk_put (cs := #[.int .u64 x102000_2, .int .u64 x102001_2, .int .u64 x102002_2, .slice none 0 0, .slice none 0 0, .int .i64 x102005_2, .int .i64 x102006_2]) ?_ 0 _ rfl; (with_reducible repeat (first | refine blk_drewN ?_ _ | refine blk_drew ?_ | refine blk_alloc ?_ _)); exact BK101.out) Tryd.underlying50 rfl (by kernel_rfl)) rfl ?_
            exact ⟨_, _, by first | rfl | (simp [errW_none, errW_some] <;> rfl) | (simp [*, errW_none, errW_some] <;> rfl), by first | exact Kd.R_nil _ _ _ _ _ | exact Kd.N_nil _ _ _ _ _ | exact Kd.V_nil _ _ _ _ _ | exact Kd.Q_nil _ _ _ _ _ | exact Kd.S_nil _ _ _ _ _, by first | exact Kd.R_nil _ _ _ _ _ | exact Kd.N_nil _ _ _ _ _ | exact Kd.V_nil _ _ _ _ _ | exact Kd.Q_nil _ _ _ _ _ | exact Kd.S_nil _ _ _ _ _, bB⟩
          ·rw [if_neg c15] at H
           exact absurd H (by simp)
         ·rw [if_neg c14] at H
          exact absurd H (by simp)
       ·rw [if_neg c10] at H
        have c10b0 : decide (0 < x6_2) = false := decide_eq_false c10
        clear c10
        replace H := Option.bind_eq_some_iff.mp H
        obtain ⟨⟨t107, t108, t109⟩, A560, H⟩ := H
        replace H : (if t109 = 0 then (if x6_2 = 0 then (ferruleref03_Parse.l0 k2 a0 (wrap64 (x1_2 + t108)) (wrap64 (x6_2 + 1)) t107 x103001_2 x103002_2) else (if x6_2 = 1 then (ferruleref03_Parse.l0 k2 a0 (wrap64 (x1_2 + t108)) (wrap64 (x6_2 + 1)) x103000_2 t107 x103002_2) else (if x6_2 = 2 then (ferruleref03_Parse.l0 k2 a0 (wrap64 (x1_2 + t108)) (wrap64 (x6_2 + 1)) x103000_2 x103001_2 t107) else (none)))) else (some (0, 0, 0, ([] : List ByteArray), ([] : List ByteArray), x1_2, t109))) = some (r1, r2, r3, r4, r5, r6, r7) := H
        have A56 := Aside0.mk A560
        clear A560
        by_cases c57 : t109 = 0
        ·rw [if_pos c57] at H
         have c57b0 : (t109 == 0) = true := beq_iff_eq.mpr c57
         have c57b1 : (t109 != 0) = false := bne_eq_false_iff_eq.mpr c57
         clear c57
         by_cases c58 : x6_2 = 0
         ·rw [if_pos c58] at H
          have c58b0 : (x6_2 == 0) = true := beq_iff_eq.mpr c58
          have c58b1 : (x6_2 != 0) = false := bne_eq_false_iff_eq.mpr c58
          clear c58
          have H' := Aside0.mk H
          clear H
          go_wp2_with (first | ((with_reducible refine gate_callee (f := 61) rfl ?_); refine goesL_ (some 42) rfl rfl Tryd.func61 (by kernel_rfl) rfl #[.string a0, .int .i64 x1_2] rfl bM ?_; (with_reducible refine (ferruleref01_Parse.calls k2 a0 x1_2 t107 t108 t109 _ A56.out).mono ?_); rintro e w59 ⟨rfl, hb⟩; refine ⟨_, rfl, ?_⟩; replace BK101 := aK BK101 hb; replace BK102 := aK BK102 hb; replace HB := aB HB hb; (try clear hb); (try clear hb2); (try clear hk); (try clear hi)) | ((with_reducible refine gate_dst (N := 7) rfl ?_); (try (refine gate_guard (by rfl) ?_; dsimp only)); refine box_event ?hg (N := 7) ?hd (cs := #[.int .u64 0, .int .i64 0, .int .i64 0]) (t := 75) ?hr ?_; (case hd => rfl); (case hg => rfl); (case hr => first | (go_simp; done) | (go_simp; rfl)); intro gb110 hg w60 hbox hb; have BK110 := Aside0.mk hbox; have GW110 := Aside0.mk ((by rw [hg]; exact (below_size bB) : w.heap.size ≤ gb110)); have GE110 := Aside0.mk ((by rw [hg]; exact (below_size bB) : w.heap.size ≤ gb110)); replace HB := aB HB hb; have NB101_110 := Aside0.mk ((by rw [hg]; exact Nat.ne_of_lt (blk_lt (g := gb101) (o := .cells #[.int .u64 x102000_2, .int .u64 x102001_2, .int .u64 x102002_2, .slice none 0 0, .slice none 0 0, .int .i64 x102005_2, .int .i64 x102006_2] 50 (0, 0)) (aKw BK101)) : gb101 ≠ gb110)); have NB110_101 := Aside0.mk ((by rw [hg]; exact Nat.ne_of_gt (blk_lt (g := gb101) (o := .cells #[.int .u64 x102000_2, .int .u64 x102001_2, .int .u64 x102002_2, .slice none 0 0, .slice none 0 0, .int .i64 x102005_2, .int .i64 x102006_2] 50 (0, 0)) (aKw BK101)) : gb110 ≠ gb101)); replace BK101 := aK BK101 hb; have NB102_110 := Aside0.mk ((by rw [hg]; exact Nat.ne_of_lt (blk_lt (g := gb102) (o := .cells #[.int .u64 x103000_2, .int .u64 x103001_2, .int .u64 x103002_2] 67 (0, 0)) (aKw BK102)) : gb102 ≠ gb110)); have NB110_102 := Aside0.mk ((by rw [hg]; exact Nat.ne_of_gt (blk_lt (g := gb102) (o := .cells #[.int .u64 x103000_2, .int .u64 x103001_2, .int .u64 x103002_2] 67 (0, 0)) (aKw BK102)) : gb110 ≠ gb102)); replace BK102 := aK BK102 hb; clear hb hbox hg; have hnb61 := NB110_101.out; have hnc61 := NB101_110.out; have hnb62 := NB110_102.out; have hnc62 := NB102_110.out; have hcz63_0 : w60.cell? ⟨gb110, 0, none⟩ = some (.int .u64 0) := (blk_cell BK110.out 0).trans rfl; have hcz63_1 : w60.cell? ⟨gb110, 1, none⟩ = some (.int .i64 0) := (blk_cell BK110.out 1).trans rfl; have hcz63_2 : w60.cell? ⟨gb110, 2, none⟩ = some (.int .i64 0) := (blk_cell BK110.out 2).trans rfl; have hfz63_0 := blk_frozen BK110.out 0; have hfz63_1 := blk_frozen BK110.out 1; have hfz63_2 := blk_frozen BK110.out 2; have ix64 : (x6_2 : Int) = 0 := (by first | (with_reducible assumption) | assumption | exact eq_of_beq bA | omega); have p64 : (0 ≤ (x6_2 : Int)) = True := eq_true (by omega); have q64 : ((x6_2 : Int) < 3) = True := eq_true (by omega); have t64 : (x6_2 : Int).toNat = 0 := (by omega); clear ix64; have hnb65 := NB102_101.out; have hnc65 := NB101_102.out; have hcz66_0 : w60.cell? ⟨gb102, 0, none⟩ = some (.int .u64 x103000_2) := (blk_cell BK102.out 0).trans rfl; have hcz66_1 : w60.cell? ⟨gb102, 1, none⟩ = some (.int .u64 x103001_2) := (blk_cell BK102.out 1).trans rfl; have hcz66_2 : w60.cell? ⟨gb102, 2, none⟩ = some (.int .u64 x103002_2) := (blk_cell BK102.out 2).trans rfl; have hfz66_0 := blk_frozen BK102.out 0; have hfz66_1 := blk_frozen BK102.out 1; have hfz66_2 := blk_frozen BK102.out 2))
          go_roundg k2
          case measure => have := HJ2.out; have := HK2.out; omega
          case rel => exact ⟨(wrap64 (x1_2 + t108)), (wrap64 (x6_2 + 1)), (x102000_2), (x102001_2), (x102002_2), (x102005_2), (x102006_2), (t107), (x103001_2), (x103002_2), bS, bS, H', ⟨by have := HJ2.out; have := HK2.out; omega⟩, ⟨aKf BK101⟩, ⟨by (with_reducible repeat (first | refine blk_drewN ?_ _ | refine blk_drew ?_ | refine blk_alloc ?_ _)); refine blk_put (cs := #[.int .u64 x103000_2, .int .u64 x103001_2, .int .u64 x103002_2]) ?_ 0 _ rfl; (with_reducible repeat (first | refine blk_drewN ?_ _ | refine blk_drew ?_ | refine blk_alloc ?_ _)); refine blk_far ?_ NB102_110.out _; (with_reducible repeat (first | refine blk_drewN ?_ _ | refine blk_drew ?_ | refine blk_alloc ?_ _)); refine blk_far ?_ NB102_110.out _; (with_reducible repeat (first | refine blk_drewN ?_ _ | refine blk_drew ?_ | refine blk_alloc ?_ _)); refine blk_far ?_ NB102_110.out _; (with_reducible repeat (first | refine blk_drewN ?_ _ | refine blk_drew ?_ | refine blk_alloc ?_ _)); exact BK102.out⟩, ⟨bB⟩⟩
         ·rw [if_neg c58] at H
          have c58b0 : (x6_2 == 0) = false := beq_eq_false_iff_ne.mpr c58
          have c58b1 : (x6_2 != 0) = true := bne_iff_ne.mpr c58
          by_cases c67 : x6_2 = 1
          ·rw [if_pos c67] at H
           have c67b0 : (x6_2 == 1) = true := beq_iff_eq.mpr c67
           have c67b1 : (x6_2 != 1) = false := bne_eq_false_iff_eq.mpr c67
           clear c67
           have H' := Aside0.mk H
           clear H
           go_wp2_with (first | ((with_reducible refine gate_callee (f := 61) rfl ?_); refine goesL_ (some 42) rfl rfl Tryd.func61 (by kernel_rfl) rfl #[.string a0, .int .i64 x1_2] rfl bM ?_; (with_reducible refine (ferruleref01_Parse.calls k2 a0 x1_2 t107 t108 t109 _ A56.out).mono ?_); rintro e w68 ⟨rfl, hb⟩; refine ⟨_, rfl, ?_⟩; replace BK101 := aK BK101 hb; replace BK102 := aK BK102 hb; replace HB := aB HB hb; (try clear hb); (try clear hb2); (try clear hk); (try clear hi)) | ((with_reducible refine gate_dst (N := 7) rfl ?_); (try (refine gate_guard (by rfl) ?_; dsimp only)); refine box_event ?hg (N := 7) ?hd (cs := #[.int .u64 0, .int .i64 0, .int .i64 0]) (t := 75) ?hr ?_; (case hd => rfl); (case hg => rfl); (case hr => first | (go_simp; done) | (go_simp; rfl)); intro gb110 hg w69 hbox hb; have BK110 := Aside0.mk hbox; have GW110 := Aside0.mk ((by rw [hg]; exact (below_size bB) : w.heap.size ≤ gb110)); have GE110 := Aside0.mk ((by rw [hg]; exact (below_size bB) : w.heap.size ≤ gb110)); replace HB := aB HB hb; have NB101_110 := Aside0.mk ((by rw [hg]; exact Nat.ne_of_lt (blk_lt (g := gb101) (o := .cells #[.int .u64 x102000_2, .int .u64 x102001_2, .int .u64 x102002_2, .slice none 0 0, .slice none 0 0, .int .i64 x102005_2, .int .i64 x102006_2] 50 (0, 0)) (aKw BK101)) : gb101 ≠ gb110)); have NB110_101 := Aside0.mk ((by rw [hg]; exact Nat.ne_of_gt (blk_lt (g := gb101) (o := .cells #[.int .u64 x102000_2, .int .u64 x102001_2, .int .u64 x102002_2, .slice none 0 0, .slice none 0 0, .int .i64 x102005_2, .int .i64 x102006_2] 50 (0, 0)) (aKw BK101)) : gb110 ≠ gb101)); replace BK101 := aK BK101 hb; have NB102_110 := Aside0.mk ((by rw [hg]; exact Nat.ne_of_lt (blk_lt (g := gb102) (o := .cells #[.int .u64 x103000_2, .int .u64 x103001_2, .int .u64 x103002_2] 67 (0, 0)) (aKw BK102)) : gb102 ≠ gb110)); have NB110_102 := Aside0.mk ((by rw [hg]; exact Nat.ne_of_gt (blk_lt (g := gb102) (o := .cells #[.int .u64 x103000_2, .int .u64 x103001_2, .int .u64 x103002_2] 67 (0, 0)) (aKw BK102)) : gb110 ≠ gb102)); replace BK102 := aK BK102 hb; clear hb hbox hg; have hnb70 := NB110_101.out; have hnc70 := NB101_110.out; have hnb71 := NB110_102.out; have hnc71 := NB102_110.out; have hcz72_0 : w69.cell? ⟨gb110, 0, none⟩ = some (.int .u64 0) := (blk_cell BK110.out 0).trans rfl; have hcz72_1 : w69.cell? ⟨gb110, 1, none⟩ = some (.int .i64 0) := (blk_cell BK110.out 1).trans rfl; have hcz72_2 : w69.cell? ⟨gb110, 2, none⟩ = some (.int .i64 0) := (blk_cell BK110.out 2).trans rfl; have hfz72_0 := blk_frozen BK110.out 0; have hfz72_1 := blk_frozen BK110.out 1; have hfz72_2 := blk_frozen BK110.out 2; have ix73 : (x6_2 : Int) = 1 := (by first | (with_reducible assumption) | assumption | exact eq_of_beq bA | omega); have p73 : (0 ≤ (x6_2 : Int)) = True := eq_true (by omega); have q73 : ((x6_2 : Int) < 3) = True := eq_true (by omega); have t73 : (x6_2 : Int).toNat = 1 := (by omega); clear ix73; have hnb74 := NB102_101.out; have hnc74 := NB101_102.out; have hcz75_0 : w69.cell? ⟨gb102, 0, none⟩ = some (.int .u64 x103000_2) := (blk_cell BK102.out 0).trans rfl; have hcz75_1 : w69.cell? ⟨gb102, 1, none⟩ = some (.int .u64 x103001_2) := (blk_cell BK102.out 1).trans rfl; have hcz75_2 : w69.cell? ⟨gb102, 2, none⟩ = some (.int .u64 x103002_2) := (blk_cell BK102.out 2).trans rfl; have hfz75_0 := blk_frozen BK102.out 0; have hfz75_1 := blk_frozen BK102.out 1; have hfz75_2 := blk_frozen BK102.out 2))
           go_roundg k2
           case measure => have := HJ2.out; have := HK2.out; omega
           case rel => exact ⟨(wrap64 (x1_2 + t108)), (wrap64 (x6_2 + 1)), (x102000_2), (x102001_2), (x102002_2), (x102005_2), (x102006_2), (x103000_2), (t107), (x103002_2), bS, bS, H', ⟨by have := HJ2.out; have := HK2.out; omega⟩, ⟨aKf BK101⟩, ⟨by (with_reducible repeat (first | refine blk_drewN ?_ _ | refine blk_drew ?_ | refine blk_alloc ?_ _)); refine blk_put (cs := #[.int .u64 x103000_2, .int .u64 x103001_2, .int .u64 x103002_2]) ?_ 1 _ rfl; (with_reducible repeat (first | refine blk_drewN ?_ _ | refine blk_drew ?_ | refine blk_alloc ?_ _)); refine blk_far ?_ NB102_110.out _; (with_reducible repeat (first | refine blk_drewN ?_ _ | refine blk_drew ?_ | refine blk_alloc ?_ _)); refine blk_far ?_ NB102_110.out _; (with_reducible repeat (first | refine blk_drewN ?_ _ | refine blk_drew ?_ | refine blk_alloc ?_ _)); refine blk_far ?_ NB102_110.out _; (with_reducible repeat (first | refine blk_drewN ?_ _ | refine blk_drew ?_ | refine blk_alloc ?_ _)); exact BK102.out⟩, ⟨bB⟩⟩
          ·rw [if_neg c67] at H
           have c67b0 : (x6_2 == 1) = false := beq_eq_false_iff_ne.mpr c67
           have c67b1 : (x6_2 != 1) = true := bne_iff_ne.mpr c67
           by_cases c76 : x6_2 = 2
           ·rw [if_pos c76] at H
            have c76b0 : (x6_2 == 2) = true := beq_iff_eq.mpr c76
            have c76b1 : (x6_2 != 2) = false := bne_eq_false_iff_eq.mpr c76
            clear c76
            have H' := Aside0.mk H
            clear H
            go_wp2_with (first | ((with_reducible refine gate_callee (f := 61) rfl ?_); refine goesL_ (some 42) rfl rfl Tryd.func61 (by kernel_rfl) rfl #[.string a0, .int .i64 x1_2] rfl bM ?_; (with_reducible refine (ferruleref01_Parse.calls k2 a0 x1_2 t107 t108 t109 _ A56.out).mono ?_); rintro e w77 ⟨rfl, hb⟩; refine ⟨_, rfl, ?_⟩; replace BK101 := aK BK101 hb; replace BK102 := aK BK102 hb; replace HB := aB HB hb; (try clear hb); (try clear hb2); (try clear hk); (try clear hi)) | ((with_reducible refine gate_dst (N := 7) rfl ?_); (try (refine gate_guard (by rfl) ?_; dsimp only)); refine box_event ?hg (N := 7) ?hd (cs := #[.int .u64 0, .int .i64 0, .int .i64 0]) (t := 75) ?hr ?_; (case hd => rfl); (case hg => rfl); (case hr => first | (go_simp; done) | (go_simp; rfl)); intro gb110 hg w78 hbox hb; have BK110 := Aside0.mk hbox; have GW110 := Aside0.mk ((by rw [hg]; exact (below_size bB) : w.heap.size ≤ gb110)); have GE110 := Aside0.mk ((by rw [hg]; exact (below_size bB) : w.heap.size ≤ gb110)); replace HB := aB HB hb; have NB101_110 := Aside0.mk ((by rw [hg]; exact Nat.ne_of_lt (blk_lt (g := gb101) (o := .cells #[.int .u64 x102000_2, .int .u64 x102001_2, .int .u64 x102002_2, .slice none 0 0, .slice none 0 0, .int .i64 x102005_2, .int .i64 x102006_2] 50 (0, 0)) (aKw BK101)) : gb101 ≠ gb110)); have NB110_101 := Aside0.mk ((by rw [hg]; exact Nat.ne_of_gt (blk_lt (g := gb101) (o := .cells #[.int .u64 x102000_2, .int .u64 x102001_2, .int .u64 x102002_2, .slice none 0 0, .slice none 0 0, .int .i64 x102005_2, .int .i64 x102006_2] 50 (0, 0)) (aKw BK101)) : gb110 ≠ gb101)); replace BK101 := aK BK101 hb; have NB102_110 := Aside0.mk ((by rw [hg]; exact Nat.ne_of_lt (blk_lt (g := gb102) (o := .cells #[.int .u64 x103000_2, .int .u64 x103001_2, .int .u64 x103002_2] 67 (0, 0)) (aKw BK102)) : gb102 ≠ gb110)); have NB110_102 := Aside0.mk ((by rw [hg]; exact Nat.ne_of_gt (blk_lt (g := gb102) (o := .cells #[.int .u64 x103000_2, .int .u64 x103001_2, .int .u64 x103002_2] 67 (0, 0)) (aKw BK102)) : gb110 ≠ gb102)); replace BK102 := aK BK102 hb; clear hb hbox hg; have hnb79 := NB110_101.out; have hnc79 := NB101_110.out; have hnb80 := NB110_102.out; have hnc80 := NB102_110.out; have hcz81_0 : w78.cell? ⟨gb110, 0, none⟩ = some (.int .u64 0) := (blk_cell BK110.out 0).trans rfl; have hcz81_1 : w78.cell? ⟨gb110, 1, none⟩ = some (.int .i64 0) := (blk_cell BK110.out 1).trans rfl; have hcz81_2 : w78.cell? ⟨gb110, 2, none⟩ = some (.int .i64 0) := (blk_cell BK110.out 2).trans rfl; have hfz81_0 := blk_frozen BK110.out 0; have hfz81_1 := blk_frozen BK110.out 1; have hfz81_2 := blk_frozen BK110.out 2; have ix82 : (x6_2 : Int) = 2 := (by first | (with_reducible assumption) | assumption | exact eq_of_beq bA | omega); have p82 : (0 ≤ (x6_2 : Int)) = True := eq_true (by omega); have q82 : ((x6_2 : Int) < 3) = True := eq_true (by omega); have t82 : (x6_2 : Int).toNat = 2 := (by omega); clear ix82; have hnb83 := NB102_101.out; have hnc83 := NB101_102.out; have hcz84_0 : w78.cell? ⟨gb102, 0, none⟩ = some (.int .u64 x103000_2) := (blk_cell BK102.out 0).trans rfl; have hcz84_1 : w78.cell? ⟨gb102, 1, none⟩ = some (.int .u64 x103001_2) := (blk_cell BK102.out 1).trans rfl; have hcz84_2 : w78.cell? ⟨gb102, 2, none⟩ = some (.int .u64 x103002_2) := (blk_cell BK102.out 2).trans rfl; have hfz84_0 := blk_frozen BK102.out 0; have hfz84_1 := blk_frozen BK102.out 1; have hfz84_2 := blk_frozen BK102.out 2))
            go_roundg k2
            case measure => have := HJ2.out; have := HK2.out; omega
            case rel => exact ⟨(wrap64 (x1_2 + t108)), (wrap64 (x6_2 + 1)), (x102000_2), (x102001_2), (x102002_2), (x102005_2), (x102006_2), (x103000_2), (x103001_2), (t107), bS, bS, H', ⟨by have := HJ2.out; have := HK2.out; omega⟩, ⟨aKf BK101⟩, ⟨by (with_reducible repeat (first | refine blk_drewN ?_ _ | refine blk_drew ?_ | refine blk_alloc ?_ _)); refine blk_put (cs := #[.int .u64 x103000_2, .int .u64 x103001_2, .int .u64 x103002_2]) ?_ 2 _ rfl; (with_reducible repeat (first | refine blk_drewN ?_ _ | refine blk_drew ?_ | refine blk_alloc ?_ _)); refine blk_far ?_ NB102_110.out _; (with_reducible repeat (first | refine blk_drewN ?_ _ | refine blk_drew ?_ | refine blk_alloc ?_ _)); refine blk_far ?_ NB102_110.out _; (with_reducible repeat (first | refine blk_drewN ?_ _ | refine blk_drew ?_ | refine blk_alloc ?_ _)); refine blk_far ?_ NB102_110.out _; (with_reducible repeat (first | refine blk_drewN ?_ _ | refine blk_drew ?_ | refine blk_alloc ?_ _)); exact BK102.out⟩, ⟨bB⟩⟩
           ·rw [if_neg c76] at H
            exact absurd H (by simp)
        ·rw [if_neg c57] at H
         have c57b0 : (t109 == 0) = false := beq_eq_false_iff_ne.mpr c57
         have c57b1 : (t109 != 0) = true := bne_iff_ne.mpr c57
         simp only [Option.some.injEq, Prod.mk.injEq] at H
         obtain ⟨rfl, rfl, rfl, rfl, rfl, rfl, rfl⟩ := H
         go_wp2_with (first | ((with_reducible refine gate_callee (f := 61) rfl ?_); refine goesL_ (some 42) rfl rfl Tryd.func61 (by kernel_rfl) rfl #[.string a0, .int .i64 x1_2] rfl bM ?_; (with_reducible refine (ferruleref01_Parse.calls k2 a0 x1_2 t107 t108 t109 _ A56.out).mono ?_); rintro e w85 ⟨rfl, hb⟩; refine ⟨_, rfl, ?_⟩; replace BK101 := aK BK101 hb; replace BK102 := aK BK102 hb; replace HB := aB HB hb; (try clear hb); (try clear hb2); (try clear hk); (try clear hi)) | ((with_reducible refine gate_dst (N := 7) rfl ?_); (try (refine gate_guard (by rfl) ?_; dsimp only)); refine box_event ?hg (N := 7) ?hd (cs := #[.int .u64 0, .int .i64 0, .int .i64 0]) (t := 75) ?hr ?_; (case hd => rfl); (case hg => rfl); (case hr => first | (go_simp; done) | (go_simp; rfl)); intro gb110 hg w86 hbox hb; have BK110 := Aside0.mk hbox; have GW110 := Aside0.mk ((by rw [hg]; exact (below_size bB) : w.heap.size ≤ gb110)); have GE110 := Aside0.mk ((by rw [hg]; exact (below_size bB) : w.heap.size ≤ gb110)); replace HB := aB HB hb; have NB101_110 := Aside0.mk ((by rw [hg]; exact Nat.ne_of_lt (blk_lt (g := gb101) (o := .cells #[.int .u64 x102000_2, .int .u64 x102001_2, .int .u64 x102002_2, .slice none 0 0, .slice none 0 0, .int .i64 x102005_2, .int .i64 x102006_2] 50 (0, 0)) (aKw BK101)) : gb101 ≠ gb110)); have NB110_101 := Aside0.mk ((by rw [hg]; exact Nat.ne_of_gt (blk_lt (g := gb101) (o := .cells #[.int .u64 x102000_2, .int .u64 x102001_2, .int .u64 x102002_2, .slice none 0 0, .slice none 0 0, .int .i64 x102005_2, .int .i64 x102006_2] 50 (0, 0)) (aKw BK101)) : gb110 ≠ gb101)); replace BK101 := aK BK101 hb; have NB102_110 := Aside0.mk ((by rw [hg]; exact Nat.ne_of_lt (blk_lt (g := gb102) (o := .cells #[.int .u64 x103000_2, .int .u64 x103001_2, .int .u64 x103002_2] 67 (0, 0)) (aKw BK102)) : gb102 ≠ gb110)); have NB110_102 := Aside0.mk ((by rw [hg]; exact Nat.ne_of_gt (blk_lt (g := gb102) (o := .cells #[.int .u64 x103000_2, .int .u64 x103001_2, .int .u64 x103002_2] 67 (0, 0)) (aKw BK102)) : gb110 ≠ gb102)); replace BK102 := aK BK102 hb; clear hb hbox hg; have hnb87 := NB110_101.out; have hnc87 := NB101_110.out; have hnb88 := NB110_102.out; have hnc88 := NB102_110.out; have hcz89_0 : w86.cell? ⟨gb110, 0, none⟩ = some (.int .u64 0) := (blk_cell BK110.out 0).trans rfl; have hcz89_1 : w86.cell? ⟨gb110, 1, none⟩ = some (.int .i64 0) := (blk_cell BK110.out 1).trans rfl; have hcz89_2 : w86.cell? ⟨gb110, 2, none⟩ = some (.int .i64 0) := (blk_cell BK110.out 2).trans rfl; have hfz89_0 := blk_frozen BK110.out 0; have hfz89_1 := blk_frozen BK110.out 1; have hfz89_2 := blk_frozen BK110.out 2; have hnb90 := NB101_102.out; have hnc90 := NB102_101.out; have hcz91_0 : w86.cell? ⟨gb101, 0, none⟩ = some (.int .u64 x102000_2) := (blk_cell BK101.out 0).trans rfl; have hcz91_1 : w86.cell? ⟨gb101, 1, none⟩ = some (.int .u64 x102001_2) := (blk_cell BK101.out 1).trans rfl; have hcz91_2 : w86.cell? ⟨gb101, 2, none⟩ = some (.int .u64 x102002_2) := (blk_cell BK101.out 2).trans rfl; have hcz91_3 : w86.cell? ⟨gb101, 3, none⟩ = some (.slice none 0 0) := (blk_cell BK101.out 3).trans rfl; have hcz91_4 : w86.cell? ⟨gb101, 4, none⟩ = some (.slice none 0 0) := (blk_cell BK101.out 4).trans rfl; have hcz91_5 : w86.cell? ⟨gb101, 5, none⟩ = some (.int .i64 x102005_2) := (blk_cell BK101.out 5).trans rfl; have hcz91_6 : w86.cell? ⟨gb101, 6, none⟩ = some (.int .i64 x102006_2) := (blk_cell BK101.out 6).trans rfl; have hfz91_0 := blk_frozen BK101.out 0; have hfz91_1 := blk_frozen BK101.out 1; have hfz91_2 := blk_frozen BK101.out 2; have hfz91_3 := blk_frozen BK101.out 3; have hfz91_4 := blk_frozen BK101.out 4; have hfz91_5 := blk_frozen BK101.out 5; have hfz91_6 := blk_frozen BK101.out 6))
         refine bodyPost_ret (results_cell_row rfl _ _ gb101 50 #[.int .u64 0, .int .u64 0, .int .u64 0, .slice none 0 0, .slice none 0 0, .int .i64 x1_2, .int .i64 t109] (0, 0) _ rfl (by (with_reducible repeat (first | refine blk_drewN ?_ _ | refine blk_drew ?_ | refine blk_alloc ?_ _)); refine blk_put (cs := #[.int .u64 0, .int .u64 0, .int .u64 0, .slice none 0 0, .slice none 0 0, .int .i64 x1_2, .int .i64 x102006_2]) ?_ 6 _ rfl; (with_reducible repeat (first | refine blk_drewN ?_ _ | refine blk_drew ?_ | refine blk_alloc ?_ _)); refine blk_put (cs := #[.int .u64 0, .int .u64 0, .int .u64 0, .slice none 0 0, .slice none 0 0, .int .i64 x102005_2, .int .i64 x102006_2]) ?_ 5 _ rfl; (with_reducible repeat (first | refine blk_drewN ?_ _ | refine blk_drew ?_ | refine blk_alloc ?_ _)); refine blk_put (cs := #[.int .u64 0, .int .u64 0, .int .u64 0, .slice none 0 0, .slice none 0 0, .int .i64 x102005_2, .int .i64 x102006_2]) ?_ 4 _ rfl; (with_reducible repeat (first | refine blk_drewN ?_ _ | refine blk_drew ?_ | refine blk_alloc ?_ _)); refine blk_put (cs := #[.int .u64 0, .int .u64 0, .int .u64 0, .slice none 0 0, .slice none 0 0, .int .i64 x102005_2, .int .i64 x102006_2]) ?_ 3 _ rfl; (with_reducible repeat (first | refine blk_drewN ?_ _ | refine blk_drew ?_ | refine blk_alloc ?_ _)); refine blk_put (cs := #[.int .u64 0, .int .u64 0, .int .u64 x102002_2, .slice none 0 0, .slice none 0 0, .int .i64 x102005_2, .int .i64 x102006_2]) ?_ 2 _ rfl; (with_reducible repeat (first | refine blk_drewN ?_ _ | refine blk_drew ?_ | refine blk_alloc ?_ _)); refine blk_put (cs := #[.int .u64 0, .int .u64 x102001_2, .int .u64 x102002_2, .slice none 0 0, .slice none 0 0, .int .i64 x102005_2, .int .i64 x102006_2]) ?_ 1 _ rfl; (with_reducible repeat (first | refine blk_drewN ?_ _ | refine blk_drew ?_ | refine blk_alloc ?_ _)); refine blk_put (cs := #[.int .u64 x102000_2, .int .u64 x102001_2, .int .u64 x102002_2, .slice none 0 0, .slice none 0 0, .int .i64 x102005_2, .int .i64 x102006_2]) ?_ 0 _ rfl; (with_reducible repeat (first | refine blk_drewN ?_ _ | refine blk_drew ?_ | refine blk_alloc ?_ _)); refine blk_far ?_ NB101_110.out _; (with_reducible repeat (first | refine blk_drewN ?_ _ | refine blk_drew ?_ | refine blk_alloc ?_ _)); refine blk_far ?_ NB101_110.out _; (with_reducible repeat (first | refine blk_drewN ?_ _ | refine blk_drew ?_ | refine blk_alloc ?_ _)); refine blk_far ?_ NB101_110.out _; (with_reducible repeat (first | refine blk_drewN ?_ _ | refine blk_drew ?_ | refine blk_alloc ?_ _)); exact BK101.out) Tryd.underlying50 rfl (by kernel_rfl)) rfl ?_
         exact ⟨_, _, by first | rfl | (simp [errW_none, errW_some] <;> rfl) | (simp [*, errW_none, errW_some] <;> rfl), by first | exact Kd.R_nil _ _ _ _ _ | exact Kd.N_nil _ _ _ _ _ | exact Kd.V_nil _ _ _ _ _ | exact Kd.Q_nil _ _ _ _ _ | exact Kd.S_nil _ _ _ _ _, by first | exact Kd.R_nil _ _ _ _ _ | exact Kd.N_nil _ _ _ _ _ | exact Kd.V_nil _ _ _ _ _ | exact Kd.Q_nil _ _ _ _ _ | exact Kd.S_nil _ _ _ _ _, bB⟩
      ·rw [if_neg c9] at H
       have c9b0 : decide (x6_2 < 3) = false := decide_eq_false c9
       clear c9
       have HC92 := Aside0.mk H
       clear H
       have hnb93 := NB102_101.out
       have hnc93 := NB101_102.out
       have hcz94_0 : wr.cell? ⟨gb102, 0, none⟩ = some (.int .u64 x103000_2) := (blk_cell BK102.out 0).trans rfl
       have hcz94_1 : wr.cell? ⟨gb102, 1, none⟩ = some (.int .u64 x103001_2) := (blk_cell BK102.out 1).trans rfl
       have hcz94_2 : wr.cell? ⟨gb102, 2, none⟩ = some (.int .u64 x103002_2) := (blk_cell BK102.out 2).trans rfl
       have hfz94_0 := blk_frozen BK102.out 0
       have hfz94_1 := blk_frozen BK102.out 1
       have hfz94_2 := blk_frozen BK102.out 2
       go_upto_region 19 with (first | ((with_reducible refine gate_dst (N := 8) rfl ?_); (try (refine gate_guard (by rfl) ?_; dsimp only)); refine box_event ?hg (N := 8) ?hd (cs := #[.int .u64 0, .int .u64 0, .int .u64 0, .slice none 0 0, .slice none 0 0]) (t := 40) ?hr ?_; (case hd => rfl); (case hg => rfl); (case hr => first | (go_simp; done) | (go_simp; rfl)); intro gb111 hg w95 hbox hb; have BK111 := Aside0.mk hbox; have GW111 := Aside0.mk ((by rw [hg]; exact (below_size bB) : w.heap.size ≤ gb111)); have GE111 := Aside0.mk ((by rw [hg]; exact (below_size bB) : w.heap.size ≤ gb111)); replace HB := aB HB hb; have NB101_111 := Aside0.mk ((by rw [hg]; exact Nat.ne_of_lt (blk_lt (g := gb101) (o := .cells #[.int .u64 x102000_2, .int .u64 x102001_2, .int .u64 x102002_2, .slice none 0 0, .slice none 0 0, .int .i64 x102005_2, .int .i64 x102006_2] 50 (0, 0)) (aKw BK101)) : gb101 ≠ gb111)); have NB111_101 := Aside0.mk ((by rw [hg]; exact Nat.ne_of_gt (blk_lt (g := gb101) (o := .cells #[.int .u64 x102000_2, .int .u64 x102001_2, .int .u64 x102002_2, .slice none 0 0, .slice none 0 0, .int .i64 x102005_2, .int .i64 x102006_2] 50 (0, 0)) (aKw BK101)) : gb111 ≠ gb101)); replace BK101 := aK BK101 hb; have NB102_111 := Aside0.mk ((by rw [hg]; exact Nat.ne_of_lt (blk_lt (g := gb102) (o := .cells #[.int .u64 x103000_2, .int .u64 x103001_2, .int .u64 x103002_2] 67 (0, 0)) (aKw BK102)) : gb102 ≠ gb111)); have NB111_102 := Aside0.mk ((by rw [hg]; exact Nat.ne_of_gt (blk_lt (g := gb102) (o := .cells #[.int .u64 x103000_2, .int .u64 x103001_2, .int .u64 x103002_2] 67 (0, 0)) (aKw BK102)) : gb111 ≠ gb102)); replace BK102 := aK BK102 hb; clear hb hbox hg; have hnb96 := NB111_101.out; have hnc96 := NB101_111.out; have hnb97 := NB111_102.out; have hnc97 := NB102_111.out; have hcz98_0 : w95.cell? ⟨gb111, 0, none⟩ = some (.int .u64 0) := (blk_cell BK111.out 0).trans rfl; have hcz98_1 : w95.cell? ⟨gb111, 1, none⟩ = some (.int .u64 0) := (blk_cell BK111.out 1).trans rfl; have hcz98_2 : w95.cell? ⟨gb111, 2, none⟩ = some (.int .u64 0) := (blk_cell BK111.out 2).trans rfl; have hcz98_3 : w95.cell? ⟨gb111, 3, none⟩ = some (.slice none 0 0) := (blk_cell BK111.out 3).trans rfl; have hcz98_4 : w95.cell? ⟨gb111, 4, none⟩ = some (.slice none 0 0) := (blk_cell BK111.out 4).trans rfl; have hfz98_0 := blk_frozen BK111.out 0; have hfz98_1 := blk_frozen BK111.out 1; have hfz98_2 := blk_frozen BK111.out 2; have hfz98_3 := blk_frozen BK111.out 3; have hfz98_4 := blk_frozen BK111.out 4))
       (try simp only [Act.put, List.setIfInBounds_toArray, List.set_cons_zero, List.set_cons_succ])
       go_cut [74] (fun v74 wc => ∃ (kq : Nat) (x74_91 : Bool), v74 = .bool x74_91 ∧ Aside0 (ferruleref03_Parse.j2 kq a0 x1_2 x74_91 x103000_2 x103001_2 x103002_2 = some (r1, r2, r3, r4, r5, r6, r7)) ∧ Aside0 (kq ≤ k2) ∧ Aside0 (wc.heap[gb101]? = some (.cells #[.int .u64 x102000_2, .int .u64 x102001_2, .int .u64 x102002_2, (.slice none 0 0), (.slice none 0 0), .int .i64 x102005_2, .int .i64 x102006_2] 50 (0, 0))) ∧ Aside0 (wc.heap[gb102]? = some (.cells #[.int .u64 x103000_2, .int .u64 x103001_2, .int .u64 x103002_2] 67 (0, 0))) ∧ Aside0 (wc.heap[gb111]? = some (.cells #[.int .u64 x103000_2, .int .u64 x103001_2, .int .u64 x103002_2, (.slice none 0 0), (.slice none 0 0)] 40 (0, 0))) ∧ Aside0 (Below w.heap.size w wc))
       case first =>
        have H := HC92.out
        clear HC92
        by_cases c99 : x1_2 < (a0.size : Int)
        ·rw [if_pos c99] at H
         have c99b0 : decide (x1_2 < (a0.size : Int)) = true := decide_eq_true c99
         clear c99
         (first | rw [c99b0] | (simp only [i64_w, i32_w]; rw [c99b0]) | skip)
         by_cases c100 : 0 ≤ x1_2
         ·rw [if_pos c100] at H
          have c100b0 : decide (0 ≤ x1_2) = true := decide_eq_true c100
          clear c100
          have H' := Aside0.mk H
          clear H
          have p101 : 0 ≤ (x1_2 : Int) := oD
          have q101 : x1_2 < (a0.size : Int) := oD
          have hx101 := bt_at a0 x1_2
          replace p101 := eq_true p101
          replace q101 := eq_true q101
          go_wp2
          go_meet
          case rel => exact ⟨_, (((bt a0 x1_2) == 45)), bS, H', ⟨by have := HJ2.out; have := HK2.out; first | omega | exact Nat.le_refl _⟩, ⟨aKf BK101⟩, ⟨aKf BK102⟩, ⟨by (with_reducible repeat (first | refine blk_drewN ?_ _ | refine blk_drew ?_ | refine blk_alloc ?_ _)); refine blk_put (cs := #[.int .u64 x103000_2, .int .u64 x103001_2, .int .u64 x103002_2, .slice none 0 0, .slice none 0 0]) ?_ 4 _ rfl; (with_reducible repeat (first | refine blk_drewN ?_ _ | refine blk_drew ?_ | refine blk_alloc ?_ _)); refine blk_put (cs := #[.int .u64 x103000_2, .int .u64 x103001_2, .int .u64 x103002_2, .slice none 0 0, .slice none 0 0]) ?_ 3 _ rfl; (with_reducible repeat (first | refine blk_drewN ?_ _ | refine blk_drew ?_ | refine blk_alloc ?_ _)); refine blk_put (cs := #[.int .u64 x103000_2, .int .u64 x103001_2, .int .u64 0, .slice none 0 0, .slice none 0 0]) ?_ 2 _ rfl; (with_reducible repeat (first | refine blk_drewN ?_ _ | refine blk_drew ?_ | refine blk_alloc ?_ _)); refine blk_put (cs := #[.int .u64 x103000_2, .int .u64 0, .int .u64 0, .slice none 0 0, .slice none 0 0]) ?_ 1 _ rfl; (with_reducible repeat (first | refine blk_drewN ?_ _ | refine blk_drew ?_ | refine blk_alloc ?_ _)); refine blk_put (cs := #[.int .u64 0, .int .u64 0, .int .u64 0, .slice none 0 0, .slice none 0 0]) ?_ 0 _ rfl; (with_reducible repeat (first | refine blk_drewN ?_ _ | refine blk_drew ?_ | refine blk_alloc ?_ _)); exact BK111.out⟩, ⟨bB⟩⟩
         ·rw [if_neg c100] at H
          exact absurd H (by simp)
        ·rw [if_neg c99] at H
         have c99b0 : decide (x1_2 < (a0.size : Int)) = false := decide_eq_false c99
         clear c99
         (first | rw [c99b0] | (simp only [i64_w, i32_w]; rw [c99b0]) | skip)
         have H' := Aside0.mk H
         clear H
         go_wp2
         go_meet
         case rel => exact ⟨_, (false), bS, H', ⟨by have := HJ2.out; have := HK2.out; first | omega | exact Nat.le_refl _⟩, ⟨aKf BK101⟩, ⟨aKf BK102⟩, ⟨by (with_reducible repeat (first | refine blk_drewN ?_ _ | refine blk_drew ?_ | refine blk_alloc ?_ _)); refine blk_put (cs := #[.int .u64 x103000_2, .int .u64 x103001_2, .int .u64 x103002_2, .slice none 0 0, .slice none 0 0]) ?_ 4 _ rfl; (with_reducible repeat (first | refine blk_drewN ?_ _ | refine blk_drew ?_ | refine blk_alloc ?_ _)); refine blk_put (cs := #[.int .u64 x103000_2, .int .u64 x103001_2, .int .u64 x103002_2, .slice none 0 0, .slice none 0 0]) ?_ 3 _ rfl; (with_reducible repeat (first | refine blk_drewN ?_ _ | refine blk_drew ?_ | refine blk_alloc ?_ _)); refine blk_put (cs := #[.int .u64 x103000_2, .int .u64 x103001_2, .int .u64 0, .slice none 0 0, .slice none 0 0]) ?_ 2 _ rfl; (with_reducible repeat (first | refine blk_drewN ?_ _ | refine blk_drew ?_ | refine blk_alloc ?_ _)); refine blk_put (cs := #[.int .u64 x103000_2, .int .u64 0, .int .u64 0, .slice none 0 0, .slice none 0 0]) ?_ 1 _ rfl; (with_reducible repeat (first | refine blk_drewN ?_ _ | refine blk_drew ?_ | refine blk_alloc ?_ _)); refine blk_put (cs := #[.int .u64 0, .int .u64 0, .int .u64 0, .slice none 0 0, .slice none 0 0]) ?_ 0 _ rfl; (with_reducible repeat (first | refine blk_drewN ?_ _ | refine blk_drew ?_ | refine blk_alloc ?_ _)); exact BK111.out⟩, ⟨bB⟩⟩
       case rest =>
        clear HC92
        try clear c1
        try clear p1
        try clear q1
        try clear hx1
        try clear c2
        try clear p2
        try clear q2
        try clear c3
        try clear p3
        try clear q3
        try clear c4
        try clear p4
        try clear q4
        try clear c5
        try clear c5b0
        try clear c6
        try clear p6
        try clear q6
        try clear c7
        try clear p7
        try clear q7
        try clear c8
        try clear p8
        try clear q8
        try clear c9
        try clear c9b0
        try clear c10
        try clear c10b0
        try clear p10
        try clear q10
        try clear hx10
        try clear c11
        try clear c11b0
        try clear c11b1
        try clear c12
        try clear c14
        try clear c14b0
        try clear c15
        try clear c15b0
        try clear p16
        try clear q16
        try clear hx16
        try clear c17
        try clear c17b0
        try clear c17b1
        try clear c19
        try clear c19b0
        try clear c19b1
        try clear c20
        try clear c20b0
        try clear c20b1
        try clear c23
        try clear c24
        try clear p26
        try clear q26
        try clear c27
        try clear c29
        try clear c29b0
        try clear c29b1
        try clear c32
        try clear c33
        try clear c34
        try clear p35
        try clear q35
        try clear c36
        try clear c38
        try clear c38b0
        try clear c38b1
        try clear c41
        try clear c42
        try clear p44
        try clear q44
        try clear c45
        try clear c49
        try clear c50
        try clear c52
        try clear c54
        try clear c57
        try clear c57b0
        try clear c57b1
        try clear c58
        try clear c58b0
        try clear c58b1
        try clear c61
        try clear c62
        try clear p64
        try clear q64
        try clear c65
        try clear c67
        try clear c67b0
        try clear c67b1
        try clear c70
        try clear c71
        try clear p73
        try clear q73
        try clear c74
        try clear c76
        try clear c76b0
        try clear c76b1
        try clear c79
        try clear c80
        try clear p82
        try clear q82
        try clear c83
        try clear c87
        try clear c88
        try clear c90
        try clear c93
        try clear c96
        try clear c97
        try clear c99
        try clear c99b0
        try clear c100
        try clear c100b0
        try clear p101
        try clear q101
        try clear hx101
        try clear hcz13_0
        try clear hcz13_1
        try clear hcz13_2
        try clear hcz13_3
        try clear hcz13_4
        try clear hcz13_5
        try clear hcz13_6
        try clear hcz25_0
        try clear hcz25_1
        try clear hcz25_2
        try clear hcz28_0
        try clear hcz28_1
        try clear hcz28_2
        try clear hcz34_0
        try clear hcz34_1
        try clear hcz34_2
        try clear hcz37_0
        try clear hcz37_1
        try clear hcz37_2
        try clear hcz43_0
        try clear hcz43_1
        try clear hcz43_2
        try clear hcz46_0
        try clear hcz46_1
        try clear hcz46_2
        try clear hcz51_0
        try clear hcz51_1
        try clear hcz51_2
        try clear hcz53_0
        try clear hcz53_1
        try clear hcz53_2
        try clear hcz53_3
        try clear hcz53_4
        try clear hcz53_5
        try clear hcz53_6
        try clear hcz55_0
        try clear hcz55_1
        try clear hcz55_2
        try clear hcz55_3
        try clear hcz55_4
        try clear hcz55_5
        try clear hcz55_6
        try clear hcz63_0
        try clear hcz63_1
        try clear hcz63_2
        try clear hcz66_0
        try clear hcz66_1
        try clear hcz66_2
        try clear hcz72_0
        try clear hcz72_1
        try clear hcz72_2
        try clear hcz75_0
        try clear hcz75_1
        try clear hcz75_2
        try clear hcz7_0
        try clear hcz7_1
        try clear hcz7_2
        try clear hcz7_3
        try clear hcz7_4
        try clear hcz7_5
        try clear hcz7_6
        try clear hcz81_0
        try clear hcz81_1
        try clear hcz81_2
        try clear hcz84_0
        try clear hcz84_1
        try clear hcz84_2
        try clear hcz89_0
        try clear hcz89_1
        try clear hcz89_2
        try clear hcz91_0
        try clear hcz91_1
        try clear hcz91_2
        try clear hcz91_3
        try clear hcz91_4
        try clear hcz91_5
        try clear hcz91_6
        try clear hcz94_0
        try clear hcz94_1
        try clear hcz94_2
        try clear hcz98_0
        try clear hcz98_1
        try clear hcz98_2
        try clear hcz98_3
        try clear hcz98_4
        try clear hfz13_0
        try clear hfz13_1
        try clear hfz13_2
        try clear hfz13_3
        try clear hfz13_4
        try clear hfz13_5
        try clear hfz13_6
        try clear hfz25_0
        try clear hfz25_1
        try clear hfz25_2
        try clear hfz28_0
        try clear hfz28_1
        try clear hfz28_2
        try clear hfz34_0
        try clear hfz34_1
        try clear hfz34_2
        try clear hfz37_0
        try clear hfz37_1
        try clear hfz37_2
        try clear hfz43_0
        try clear hfz43_1
        try clear hfz43_2
        try clear hfz46_0
        try clear hfz46_1
        try clear hfz46_2
        try clear hfz51_0
        try clear hfz51_1
        try clear hfz51_2
        try clear hfz53_0
        try clear hfz53_1
        try clear hfz53_2
        try clear hfz53_3
        try clear hfz53_4
        try clear hfz53_5
        try clear hfz53_6
        try clear hfz55_0
        try clear hfz55_1
        try clear hfz55_2
        try clear hfz55_3
        try clear hfz55_4
        try clear hfz55_5
        try clear hfz55_6
        try clear hfz63_0
        try clear hfz63_1
        try clear hfz63_2
        try clear hfz66_0
        try clear hfz66_1
        try clear hfz66_2
        try clear hfz72_0
        try clear hfz72_1
        try clear hfz72_2
        try clear hfz75_0
        try clear hfz75_1
        try clear hfz75_2
        try clear hfz7_0
        try clear hfz7_1
        try clear hfz7_2
        try clear hfz7_3
        try clear hfz7_4
        try clear hfz7_5
        try clear hfz7_6
        try clear hfz81_0
        try clear hfz81_1
        try clear hfz81_2
        try clear hfz84_0
        try clear hfz84_1
        try clear hfz84_2
        try clear hfz89_0
        try clear hfz89_1
        try clear hfz89_2
        try clear hfz91_0
        try clear hfz91_1
        try clear hfz91_2
        try clear hfz91_3
        try clear hfz91_4
        try clear hfz91_5
        try clear hfz91_6
        try clear hfz94_0
        try clear hfz94_1
        try clear hfz94_2
        try clear hfz98_0
        try clear hfz98_1
        try clear hfz98_2
        try clear hfz98_3
        try clear hfz98_4
        try clear p101
        try clear p16
        try clear p2
        try clear p26
        try clear p35
        try clear p44
        try clear p6
        try clear p64
        try clear p73
        try clear p82
        try clear q101
        try clear q16
        try clear q26
        try clear q35
        try clear q44
        try clear q64
        try clear q73
        try clear q82
        obtain ⟨kq, x74_91, rfl, HA, HJ91, BK101, BK102, BK111, HB⟩ := hcut
        cases kq with
        | zero => exact absurd HA.out (by simp [ferruleref03_Parse.j2])
        | succ kj91 =>
         have H := HA.out
         clear HA
         simp only [ferruleref03_Parse.j2] at H
         have HC102 := Aside0.mk H
         clear H
         go_upto_if 74 with (fail)
         go_cut [1] (fun v1 wc => ∃ (kq : Nat) (x1_101 : Int) (x102000_101 : Int) (x102001_101 : Int) (x102002_101 : Int) (x102005_101 : Int) (x102006_101 : Int) (x112003_101 : List ByteArray) (u112003 : Value), v1 = .int .i64 x1_101 ∧ Aside0 (ferruleref03_Parse.j3 kq a0 x1_101 x103000_2 x103001_2 x103002_2 x112003_101 = some (r1, r2, r3, r4, r5, r6, r7)) ∧ Aside0 (kq ≤ kj91) ∧ Aside0 (Kd.R Kd.string 9 wc w.heap.size (fun _ => True) u112003 x112003_101) ∧ Aside0 (wc.heap[gb101]? = some (.cells #[.int .u64 x102000_101, .int .u64 x102001_101, .int .u64 x102002_101, (.slice none 0 0), (.slice none 0 0), .int .i64 x102005_101, .int .i64 x102006_101] 50 (0, 0))) ∧ Aside0 (wc.heap[gb102]? = some (.cells #[.int .u64 x103000_2, .int .u64 x103001_2, .int .u64 x103002_2] 67 (0, 0))) ∧ Aside0 (wc.heap[gb111]? = some (.cells #[.int .u64 x103000_2, .int .u64 x103001_2, .int .u64 x103002_2, u112003, (.slice none 0 0)] 40 (0, 0))) ∧ Aside0 (Below w.heap.size w wc))
         case first =>
          have H := HC102.out
          clear HC102
          by_cases c103 : x74_91 = true
          ·subst c103
           have H1 : ((ferruleref02_Row.f kj91 a0 (wrap64 (x1_2 + 1)) true).bind fun bt112 => (if bt112.2.2 = 0 then (ferruleref03_Parse.j3 kj91 a0 (wrap64 ((wrap64 (x1_2 + 1)) + bt112.2.1)) x103000_2 x103001_2 x103002_2 bt112.1) else (some (0, 0, 0, ([] : List ByteArray), ([] : List ByteArray), wrap64 (x1_2 + 1), bt112.2.2)))) = some (r1, r2, r3, r4, r5, r6, r7) := by rw [if_pos rfl] at H; exact H
           clear H
           have H := H1
           clear H1
           replace H := Option.bind_eq_some_iff.mp H
           obtain ⟨⟨t112, t115, t116⟩, A1040, H⟩ := H
           replace H : (if t116 = 0 then (ferruleref03_Parse.j3 kj91 a0 (wrap64 ((wrap64 (x1_2 + 1)) + t115)) x103000_2 x103001_2 x103002_2 t112) else (some (0, 0, 0, ([] : List ByteArray), ([] : List ByteArray), wrap64 (x1_2 + 1), t116))) = some (r1, r2, r3, r4, r5, r6, r7) := H
           have A104 := Aside0.mk A1040
           clear A1040
           by_cases c105 : t116 = 0
           ·rw [if_pos c105] at H
            have c105b0 : (t116 == 0) = true := beq_iff_eq.mpr c105
            have c105b1 : (t116 != 0) = false := bne_eq_false_iff_eq.mpr c105
            clear c105
            (first | rw [c105b0] | (simp only [i64_w, i32_w]; rw [c105b0]) | skip)
            have H' := Aside0.mk H
            clear H
            go_wp2_with (first | ((with_reducible refine gate_callee (f := 16) rfl ?_); refine goesL_ (some 78) rfl rfl Tryd.func16 (by kernel_rfl) rfl #[.string a0, .int .i64 (wrap64 (x1_2 + 1)), .bool true] rfl bM ?_; (with_reducible refine (ferruleref02_Row.calls kj91 a0 (wrap64 (x1_2 + 1)) true t112 t115 t116 _ A104.out).mono ?_); rintro e w106 ⟨v113, rfl, ho0, hb⟩; refine ⟨_, rfl, ?_⟩; have HO114 := aL ho0 HB; replace BK101 := aK BK101 hb; replace BK102 := aK BK102 hb; replace BK111 := aK BK111 hb; replace HB := aB HB hb; (try clear hb); (try clear hb2); (try clear hk); (try clear hi); (try clear ho0)) | ((with_reducible refine gate_dst (N := 9) rfl ?_); (try (refine gate_guard (by rfl) ?_; dsimp only)); refine box_event ?hg (N := 9) ?hd (cs := #[.slice none 0 0, .int .i64 0, .int .i64 0]) (t := 29) ?hr ?_; (case hd => rfl); (case hg => rfl); (case hr => first | (go_simp; done) | (go_simp; rfl)); intro gb117 hg w107 hbox hb; replace HO114 := aR HO114 hb; have BK117 := Aside0.mk hbox; have GW117 := Aside0.mk ((by rw [hg]; exact (below_size bB) : w.heap.size ≤ gb117)); have GE117 := Aside0.mk ((by rw [hg]; exact (below_size bB) : w.heap.size ≤ gb117)); replace HB := aB HB hb; have NB101_117 := Aside0.mk ((by rw [hg]; exact Nat.ne_of_lt (blk_lt (g := gb101) (o := .cells #[.int .u64 x102000_2, .int .u64 x102001_2, .int .u64 x102002_2, .slice none 0 0, .slice none 0 0, .int .i64 x102005_2, .int .i64 x102006_2] 50 (0, 0)) (aKw BK101)) : gb101 ≠ gb117)); have NB117_101 := Aside0.mk ((by rw [hg]; exact Nat.ne_of_gt (blk_lt (g := gb101) (o := .cells #[.int .u64 x102000_2, .int .u64 x102001_2, .int .u64 x102002_2, .slice none 0 0, .slice none 0 0, .int .i64 x102005_2, .int .i64 x102006_2] 50 (0, 0)) (aKw BK101)) : gb117 ≠ gb101)); replace BK101 := aK BK101 hb; have NB102_117 := Aside0.mk ((by rw [hg]; exact Nat.ne_of_lt (blk_lt (g := gb102) (o := .cells #[.int .u64 x103000_2, .int .u64 x103001_2, .int .u64 x103002_2] 67 (0, 0)) (aKw BK102)) : gb102 ≠ gb117)); have NB117_102 := Aside0.mk ((by rw [hg]; exact Nat.ne_of_gt (blk_lt (g := gb102) (o := .cells #[.int .u64 x103000_2, .int .u64 x103001_2, .int .u64 x103002_2] 67 (0, 0)) (aKw BK102)) : gb117 ≠ gb102)); replace BK102 := aK BK102 hb; have NB111_117 := Aside0.mk ((by rw [hg]; exact Nat.ne_of_lt (blk_lt (g := gb111) (o := .cells #[.int .u64 x103000_2, .int .u64 x103001_2, .int .u64 x103002_2, .slice none 0 0, .slice none 0 0] 40 (0, 0)) (aKw BK111)) : gb111 ≠ gb117)); have NB117_111 := Aside0.mk ((by rw [hg]; exact Nat.ne_of_gt (blk_lt (g := gb111) (o := .cells #[.int .u64 x103000_2, .int .u64 x103001_2, .int .u64 x103002_2, .slice none 0 0, .slice none 0 0] 40 (0, 0)) (aKw BK111)) : gb117 ≠ gb111)); replace BK111 := aK BK111 hb; clear hb hbox hg; obtain ⟨Ao108, co108, eo108⟩ := Kd.R_slice HO114.out; subst eo108; have hnb109 := NB117_101.out; have hnc109 := NB101_117.out; have hnb110 := NB117_102.out; have hnc110 := NB102_117.out; have hnb111 := NB117_111.out; have hnc111 := NB111_117.out; have hcz112_0 : w107.cell? ⟨gb117, 0, none⟩ = some (.slice none 0 0) := (blk_cell BK117.out 0).trans rfl; have hcz112_1 : w107.cell? ⟨gb117, 1, none⟩ = some (.int .i64 0) := (blk_cell BK117.out 1).trans rfl; have hcz112_2 : w107.cell? ⟨gb117, 2, none⟩ = some (.int .i64 0) := (blk_cell BK117.out 2).trans rfl; have hfz112_0 := blk_frozen BK117.out 0; have hfz112_1 := blk_frozen BK117.out 1; have hfz112_2 := blk_frozen BK117.out 2; have hnb113 := NB111_101.out; have hnc113 := NB101_111.out; have hnb114 := NB111_102.out; have hnc114 := NB102_111.out; have hcz115_0 : w107.cell? ⟨gb111, 0, none⟩ = some (.int .u64 x103000_2) := (blk_cell BK111.out 0).trans rfl; have hcz115_1 : w107.cell? ⟨gb111, 1, none⟩ = some (.int .u64 x103001_2) := (blk_cell BK111.out 1).trans rfl; have hcz115_2 : w107.cell? ⟨gb111, 2, none⟩ = some (.int .u64 x103002_2) := (blk_cell BK111.out 2).trans rfl; have hcz115_3 : w107.cell? ⟨gb111, 3, none⟩ = some (.slice none 0 0) := (blk_cell BK111.out 3).trans rfl; have hcz115_4 : w107.cell? ⟨gb111, 4, none⟩ = some (.slice none 0 0) := (blk_cell BK111.out 4).trans rfl; have hfz115_0 := blk_frozen BK111.out 0; have hfz115_1 := blk_frozen BK111.out 1; have hfz115_2 := blk_frozen BK111.out 2; have hfz115_3 := blk_frozen BK111.out 3; have hfz115_4 := blk_frozen BK111.out 4))
            go_meet
            case rel => exact ⟨_, (wrap64 ((wrap64 (x1_2 + 1)) + t115)), (x102000_2), (x102001_2), (x102002_2), (x102005_2), (x102006_2), (t112), (.slice Ao108 t112.length co108), bS, H', ⟨by have := HJ2.out; have := HK2.out; have := HJ91.out; first | omega | exact Nat.le_refl _⟩, ⟨by (with_reducible repeat (first | apply Kd.R_alloc | apply Kd.R_drewN | apply Kd.R_drew)); exact Kd.R_mono (Kd.R_far (p := ⟨gb111, 3, none⟩) (Kd.R_far (p := ⟨gb117, 2, none⟩) (Kd.R_far (p := ⟨gb117, 1, none⟩) (Kd.R_far (p := ⟨gb117, 0, none⟩) (Kd.R_types (Kd.R_types HO114.out BK117.out (by decide)) BK111.out (by decide)) (fun _ hk => hk.1.2) (.slice Ao108 t112.length co108)) (fun _ hk => hk.1.2) (.int .i64 t115)) (fun _ hk => hk.1.2) (.int .i64 t116)) (fun _ hk => hk.2) (.slice Ao108 t112.length co108)) (fun _ hk => trivial)⟩, ⟨aKf BK101⟩, ⟨aKf BK102⟩, ⟨by (with_reducible repeat (first | refine blk_drewN ?_ _ | refine blk_drew ?_ | refine blk_alloc ?_ _)); refine blk_put (cs := #[.int .u64 x103000_2, .int .u64 x103001_2, .int .u64 x103002_2, .slice none 0 0, .slice none 0 0]) ?_ 3 _ rfl; (with_reducible repeat (first | refine blk_drewN ?_ _ | refine blk_drew ?_ | refine blk_alloc ?_ _)); refine blk_far ?_ NB111_117.out _; (with_reducible repeat (first | refine blk_drewN ?_ _ | refine blk_drew ?_ | refine blk_alloc ?_ _)); refine blk_far ?_ NB111_117.out _; (with_reducible repeat (first | refine blk_drewN ?_ _ | refine blk_drew ?_ | refine blk_alloc ?_ _)); refine blk_far ?_ NB111_117.out _; (with_reducible repeat (first | refine blk_drewN ?_ _ | refine blk_drew ?_ | refine blk_alloc ?_ _)); exact BK111.out⟩, ⟨bB⟩⟩
           ·rw [if_neg c105] at H
            have c105b0 : (t116 == 0) = false := beq_eq_false_iff_ne.mpr c105
            have c105b1 : (t116 != 0) = true := bne_iff_ne.mpr c105
            (first | rw [c105b0] | (simp only [i64_w, i32_w]; rw [c105b0]) | skip)
            simp only [Option.some.injEq, Prod.mk.injEq] at H
            obtain ⟨rfl, rfl, rfl, rfl, rfl, rfl, rfl⟩ := H
            go_wp2_with (first | ((with_reducible refine gate_callee (f := 16) rfl ?_); refine goesL_ (some 78) rfl rfl Tryd.func16 (by kernel_rfl) rfl #[.string a0, .int .i64 (wrap64 (x1_2 + 1)), .bool true] rfl bM ?_; (with_reducible refine (ferruleref02_Row.calls kj91 a0 (wrap64 (x1_2 + 1)) true t112 t115 t116 _ A104.out).mono ?_); rintro e w116 ⟨v113, rfl, ho0, hb⟩; refine ⟨_, rfl, ?_⟩; have HO114 := aL ho0 HB; replace BK101 := aK BK101 hb; replace BK102 := aK BK102 hb; replace BK111 := aK BK111 hb; replace HB := aB HB hb; (try clear hb); (try clear hb2); (try clear hk); (try clear hi); (try clear ho0)) | ((with_reducible refine gate_dst (N := 9) rfl ?_); (try (refine gate_guard (by rfl) ?_; dsimp only)); refine box_event ?hg (N := 9) ?hd (cs := #[.slice none 0 0, .int .i64 0, .int .i64 0]) (t := 29) ?hr ?_; (case hd => rfl); (case hg => rfl); (case hr => first | (go_simp; done) | (go_simp; rfl)); intro gb117 hg w117 hbox hb; replace HO114 := aR HO114 hb; have BK117 := Aside0.mk hbox; have GW117 := Aside0.mk ((by rw [hg]; exact (below_size bB) : w.heap.size ≤ gb117)); have GE117 := Aside0.mk ((by rw [hg]; exact (below_size bB) : w.heap.size ≤ gb117)); replace HB := aB HB hb; have NB101_117 := Aside0.mk ((by rw [hg]; exact Nat.ne_of_lt (blk_lt (g := gb101) (o := .cells #[.int .u64 x102000_2, .int .u64 x102001_2, .int .u64 x102002_2, .slice none 0 0, .slice none 0 0, .int .i64 x102005_2, .int .i64 x102006_2] 50 (0, 0)) (aKw BK101)) : gb101 ≠ gb117)); have NB117_101 := Aside0.mk ((by rw [hg]; exact Nat.ne_of_gt (blk_lt (g := gb101) (o := .cells #[.int .u64 x102000_2, .int .u64 x102001_2, .int .u64 x102002_2, .slice none 0 0, .slice none 0 0, .int .i64 x102005_2, .int .i64 x102006_2] 50 (0, 0)) (aKw BK101)) : gb117 ≠ gb101)); replace BK101 := aK BK101 hb; have NB102_117 := Aside0.mk ((by rw [hg]; exact Nat.ne_of_lt (blk_lt (g := gb102) (o := .cells #[.int .u64 x103000_2, .int .u64 x103001_2, .int .u64 x103002_2] 67 (0, 0)) (aKw BK102)) : gb102 ≠ gb117)); have NB117_102 := Aside0.mk ((by rw [hg]; exact Nat.ne_of_gt (blk_lt (g := gb102) (o := .cells #[.int .u64 x103000_2, .int .u64 x103001_2, .int .u64 x103002_2] 67 (0, 0)) (aKw BK102)) : gb117 ≠ gb102)); replace BK102 := aK BK102 hb; have NB111_117 := Aside0.mk ((by rw [hg]; exact Nat.ne_of_lt (blk_lt (g := gb111) (o := .cells #[.int .u64 x103000_2, .int .u64 x103001_2, .int .u64 x103002_2, .slice none 0 0, .slice none 0 0] 40 (0, 0)) (aKw BK111)) : gb111 ≠ gb117)); have NB117_111 := Aside0.mk ((by rw [hg]; exact Nat.ne_of_gt (blk_lt (g := gb111) (o := .cells #[.int .u64 x103000_2, .int .u64 x103001_2, .int .u64 x103002_2, .slice none 0 0, .slice none 0 0] 40 (0, 0)) (aKw BK111)) : gb117 ≠ gb111)); replace BK111 := aK BK111 hb; clear hb hbox hg; obtain ⟨Ao118, co118, eo118⟩ := Kd.R_slice HO114.out; subst eo118; have hnb119 := NB117_101.out; have hnc119 := NB101_117.out; have hnb120 := NB117_102.out; have hnc120 := NB102_117.out; have hnb121 := NB117_111.out; have hnc121 := NB111_117.out; have hcz122_0 : w117.cell? ⟨gb117, 0, none⟩ = some (.slice none 0 0) := (blk_cell BK117.out 0).trans rfl; have hcz122_1 : w117.cell? ⟨gb117, 1, none⟩ = some (.int .i64 0) := (blk_cell BK117.out 1).trans rfl; have hcz122_2 : w117.cell? ⟨gb117, 2, none⟩ = some (.int .i64 0) := (blk_cell BK117.out 2).trans rfl; have hfz122_0 := blk_frozen BK117.out 0; have hfz122_1 := blk_frozen BK117.out 1; have hfz122_2 := blk_frozen BK117.out 2; have hnb123 := NB101_102.out; have hnc123 := NB102_101.out; have hnb124 := NB101_111.out; have hnc124 := NB111_101.out; have hcz125_0 : w117.cell? ⟨gb101, 0, none⟩ = some (.int .u64 x102000_2) := (blk_cell BK101.out 0).trans rfl; have hcz125_1 : w117.cell? ⟨gb101, 1, none⟩ = some (.int .u64 x102001_2) := (blk_cell BK101.out 1).trans rfl; have hcz125_2 : w117.cell? ⟨gb101, 2, none⟩ = some (.int .u64 x102002_2) := (blk_cell BK101.out 2).trans rfl; have hcz125_3 : w117.cell? ⟨gb101, 3, none⟩ = some (.slice none 0 0) := (blk_cell BK101.out 3).trans rfl; have hcz125_4 : w117.cell? ⟨gb101, 4, none⟩ = some (.slice none 0 0) := (blk_cell BK101.out 4).trans rfl; have hcz125_5 : w117.cell? ⟨gb101, 5, none⟩ = some (.int .i64 x102005_2) := (blk_cell BK101.out 5).trans rfl; have hcz125_6 : w117.cell? ⟨gb101, 6, none⟩ = some (.int .i64 x102006_2) := (blk_cell BK101.out 6).trans rfl; have hfz125_0 := blk_frozen BK101.out 0; have hfz125_1 := blk_frozen BK101.out 1; have hfz125_2 := blk_frozen BK101.out 2; have hfz125_3 := blk_frozen BK101.out 3; have hfz125_4 := blk_frozen BK101.out 4; have hfz125_5 := blk_frozen BK101.out 5; have hfz125_6 := blk_frozen BK101.out 6))
            refine bodyPost_ret (results_cell_row rfl _ _ gb101 50 #[.int .u64 0, .int .u64 0, .int .u64 0, .slice none 0 0, .slice none 0 0, .int .i64 (wrap64 (x1_2 + 1)), .int .i64 t116] (0, 0) _ rfl (by (with_reducible repeat (first | refine blk_drewN ?_ _ | refine blk_drew ?_ | refine blk_alloc ?_ _)); refine blk_put (cs := #[.int .u64 0, .int .u64 0, .int .u64 0, .slice none 0 0, .slice none 0 0, .int .i64 (wrap64 (x1_2 + 1)), .int .i64 x102006_2]) ?_ 6 _ rfl; (with_reducible repeat (first | refine blk_drewN ?_ _ | refine blk_drew ?_ | refine blk_alloc ?_ _)); refine blk_put (cs := #[.int .u64 0, .int .u64 0, .int .u64 0, .slice none 0 0, .slice none 0 0, .int .i64 x102005_2, .int .i64 x102006_2]) ?_ 5 _ rfl; (with_reducible repeat (first | refine blk_drewN ?_ _ | refine blk_drew ?_ | refine blk_alloc ?_ _)); refine blk_put (cs := #[.int .u64 0, .int .u64 0, .int .u64 0, .slice none 0 0, .slice none 0 0, .int .i64 x102005_2, .int .i64 x102006_2]) ?_ 4 _ rfl; (with_reducible repeat (first | refine blk_drewN ?_ _ | refine blk_drew ?_ | refine blk_alloc ?_ _)); refine blk_put (cs := #[.int .u64 0, .int .u64 0, .int .u64 0, .slice none 0 0, .slice none 0 0, .int .i64 x102005_2, .int .i64 x102006_2]) ?_ 3 _ rfl; (with_reducible repeat (first | refine blk_drewN ?_ _ | refine blk_drew ?_ | refine blk_alloc ?_ _)); refine blk_put (cs := #[.int .u64 0, .int .u64 0, .int .u64 x102002_2, .slice none 0 0, .slice none 0 0, .int .i64 x102005_2, .int .i64 x102006_2]) ?_ 2 _ rfl; (with_reducible repeat (first | refine blk_drewN ?_ _ | refine blk_drew ?_ | refine blk_alloc ?_ _)); refine blk_put (cs := #[.int .u64 0, .int .u64 x102001_2, .int .u64 x102002_2, .slice none 0 0, .slice none 0 0, .int .i64 x102005_2, .int .i64 x102006_2]) ?_ 1 _ rfl; (with_reducible repeat (first | refine blk_drewN ?_ _ | refine blk_drew ?_ | refine blk_alloc ?_ _)); refine blk_put (cs := #[.int .u64 x102000_2, .int .u64 x102001_2, .int .u64 x102002_2, .slice none 0 0, .slice none 0 0, .int .i64 x102005_2, .int .i64 x102006_2]) ?_ 0 _ rfl; (with_reducible repeat (first | refine blk_drewN ?_ _ | refine blk_drew ?_ | refine blk_alloc ?_ _)); refine blk_far ?_ NB101_117.out _; (with_reducible repeat (first | refine blk_drewN ?_ _ | refine blk_drew ?_ | refine blk_alloc ?_ _)); refine blk_far ?_ NB101_117.out _; (with_reducible repeat (first | refine blk_drewN ?_ _ | refine blk_drew ?_ | refine blk_alloc ?_ _)); refine blk_far ?_ NB101_117.out _; (with_reducible repeat (first | refine blk_drewN ?_ _ | refine blk_drew ?_ | refine blk_alloc ?_ _)); exact BK101.out) Tryd.underlying50 rfl (by kernel_rfl)) rfl ?_
            exact ⟨_, _, by first | rfl | (simp [errW_none, errW_some] <;> rfl) | (simp [*, errW_none, errW_some] <;> rfl), by first | exact Kd.R_nil _ _ _ _ _ | exact Kd.N_nil _ _ _ _ _ | exact Kd.V_nil _ _ _ _ _ | exact Kd.Q_nil _ _ _ _ _ | exact Kd.S_nil _ _ _ _ _, by first | exact Kd.R_nil _ _ _ _ _ | exact Kd.N_nil _ _ _ _ _ | exact Kd.V_nil _ _ _ _ _ | exact Kd.Q_nil _ _ _ _ _ | exact Kd.S_nil _ _ _ _ _, bB⟩
          ·replace c103 := Bool.eq_false_iff.mpr c103
           subst c103
           have H1 : (ferruleref03_Parse.j3 kj91 a0 x1_2 x103000_2 x103001_2 x103002_2 ([] : List ByteArray)) = some (r1, r2, r3, r4, r5, r6, r7) := by rw [if_neg (show ¬ (false = true) by decide)] at H; exact H
           clear H
           have H := H1
           clear H1
           have H' := Aside0.mk H
           clear H
           go_wp2
           go_meet
           case rel => exact ⟨_, (x1_2), (x102000_2), (x102001_2), (x102002_2), (x102005_2), (x102006_2), (([] : List ByteArray)), (.slice none 0 0), bS, H', ⟨by have := HJ2.out; have := HK2.out; have := HJ91.out; first | omega | exact Nat.le_refl _⟩, ⟨by first | exact Kd.R_nil _ _ _ _ _ | exact Kd.N_nil _ _ _ _ _ | exact Kd.V_nil _ _ _ _ _ | exact Kd.Q_nil _ _ _ _ _ | exact Kd.S_nil _ _ _ _ _⟩, ⟨aKw BK101⟩, ⟨aKw BK102⟩, ⟨aKw BK111⟩, ⟨bB⟩⟩
         case rest =>
          clear HC102
          try clear c1
          try clear p1
          try clear q1
          try clear hx1
          try clear c2
          try clear p2
          try clear q2
          try clear c3
          try clear p3
          try clear q3
          try clear c4
          try clear p4
          try clear q4
          try clear c5
          try clear c5b0
          try clear c6
          try clear p6
          try clear q6
          try clear c7
          try clear p7
          try clear q7
          try clear c8
          try clear p8
          try clear q8
          try clear c9
          try clear c9b0
          try clear c10
          try clear c10b0
          try clear p10
          try clear q10
          try clear hx10
          try clear c11
          try clear c11b0
          try clear c11b1
          try clear c12
          try clear c14
          try clear c14b0
          try clear c15
          try clear c15b0
          try clear c16
          try clear p16
          try clear q16
          try clear hx16
          try clear c17
          try clear c17b0
          try clear c17b1
          try clear c19
          try clear c19b0
          try clear c19b1
          try clear c20
          try clear c20b0
          try clear c20b1
          try clear c23
          try clear c24
          try clear p26
          try clear q26
          try clear c27
          try clear c29
          try clear c29b0
          try clear c29b1
          try clear c32
          try clear c33
          try clear c34
          try clear p35
          try clear q35
          try clear c36
          try clear c38
          try clear c38b0
          try clear c38b1
          try clear c41
          try clear c42
          try clear p44
          try clear q44
          try clear c45
          try clear c49
          try clear c50
          try clear c52
          try clear c54
          try clear c57
          try clear c57b0
          try clear c57b1
          try clear c58
          try clear c58b0
          try clear c58b1
          try clear c61
          try clear c62
          try clear p64
          try clear q64
          try clear c65
          try clear c67
          try clear c67b0
          try clear c67b1
          try clear c70
          try clear c71
          try clear p73
          try clear q73
          try clear c74
          try clear c76
          try clear c76b0
          try clear c76b1
          try clear c79
          try clear c80
          try clear p82
          try clear q82
          try clear c83
          try clear c87
          try clear c88
          try clear c90
          try clear c93
          try clear c96
          try clear c97
          try clear c99
          try clear c99b0
          try clear c100
          try clear c100b0
          try clear p101
          try clear q101
          try clear hx101
          try clear c103
          try clear c105
          try clear c105b0
          try clear c105b1
          try clear c109
          try clear c110
          try clear c111
          try clear c113
          try clear c114
          try clear c119
          try clear c120
          try clear c121
          try clear c123
          try clear c124
          try clear hcz112_0
          try clear hcz112_1
          try clear hcz112_2
          try clear hcz115_0
          try clear hcz115_1
          try clear hcz115_2
          try clear hcz115_3
          try clear hcz115_4
          try clear hcz122_0
          try clear hcz122_1
          try clear hcz122_2
          try clear hcz125_0
          try clear hcz125_1
          try clear hcz125_2
          try clear hcz125_3
          try clear hcz125_4
          try clear hcz125_5
          try clear hcz125_6
          try clear hcz13_0
          try clear hcz13_1
          try clear hcz13_2
          try clear hcz13_3
          try clear hcz13_4
          try clear hcz13_5
          try clear hcz13_6
          try clear hcz25_0
          try clear hcz25_1
          try clear hcz25_2
          try clear hcz28_0
          try clear hcz28_1
          try clear hcz28_2
          try clear hcz34_0
          try clear hcz34_1
          try clear hcz34_2
          try clear hcz37_0
          try clear hcz37_1
          try clear hcz37_2
          try clear hcz43_0
          try clear hcz43_1
          try clear hcz43_2
          try clear hcz46_0
          try clear hcz46_1
          try clear hcz46_2
          try clear hcz51_0
          try clear hcz51_1
          try clear hcz51_2
          try clear hcz53_0
          try clear hcz53_1
          try clear hcz53_2
          try clear hcz53_3
          try clear hcz53_4
          try clear hcz53_5
          try clear hcz53_6
          try clear hcz55_0
          try clear hcz55_1
          try clear hcz55_2
          try clear hcz55_3
          try clear hcz55_4
          try clear hcz55_5
          try clear hcz55_6
          try clear hcz63_0
          try clear hcz63_1
          try clear hcz63_2
          try clear hcz66_0
          try clear hcz66_1
          try clear hcz66_2
          try clear hcz72_0
          try clear hcz72_1
          try clear hcz72_2
          try clear hcz75_0
          try clear hcz75_1
          try clear hcz75_2
          try clear hcz7_0
          try clear hcz7_1
          try clear hcz7_2
          try clear hcz7_3
          try clear hcz7_4
          try clear hcz7_5
          try clear hcz7_6
          try clear hcz81_0
          try clear hcz81_1
          try clear hcz81_2
          try clear hcz84_0
          try clear hcz84_1
          try clear hcz84_2
          try clear hcz89_0
          try clear hcz89_1
          try clear hcz89_2
          try clear hcz91_0
          try clear hcz91_1
          try clear hcz91_2
          try clear hcz91_3
          try clear hcz91_4
          try clear hcz91_5
          try clear hcz91_6
          try clear hcz94_0
          try clear hcz94_1
          try clear hcz94_2
          try clear hcz98_0
          try clear hcz98_1
          try clear hcz98_2
          try clear hcz98_3
          try clear hcz98_4
          try clear hfz112_0
          try clear hfz112_1
          try clear hfz112_2
          try clear hfz115_0
          try clear hfz115_1
          try clear hfz115_2
          try clear hfz115_3
          try clear hfz115_4
          try clear hfz122_0
          try clear hfz122_1
          try clear hfz122_2
          try clear hfz125_0
          try clear hfz125_1
          try clear hfz125_2
          try clear hfz125_3
          try clear hfz125_4
          try clear hfz125_5
          try clear hfz125_6
          try clear hfz13_0
          try clear hfz13_1
          try clear hfz13_2
          try clear hfz13_3
          try clear hfz13_4
          try clear hfz13_5
          try clear hfz13_6
          try clear hfz25_0
          try clear hfz25_1
          try clear hfz25_2
          try clear hfz28_0
          try clear hfz28_1
          try clear hfz28_2
          try clear hfz34_0
          try clear hfz34_1
          try clear hfz34_2
          try clear hfz37_0
          try clear hfz37_1
          try clear hfz37_2
          try clear hfz43_0
          try clear hfz43_1
          try clear hfz43_2
          try clear hfz46_0
          try clear hfz46_1
          try clear hfz46_2
          try clear hfz51_0
          try clear hfz51_1
          try clear hfz51_2
          try clear hfz53_0
          try clear hfz53_1
          try clear hfz53_2
          try clear hfz53_3
          try clear hfz53_4
          try clear hfz53_5
          try clear hfz53_6
          try clear hfz55_0
          try clear hfz55_1
          try clear hfz55_2
          try clear hfz55_3
          try clear hfz55_4
          try clear hfz55_5
          try clear hfz55_6
          try clear hfz63_0
          try clear hfz63_1
          try clear hfz63_2
          try clear hfz66_0
          try clear hfz66_1
          try clear hfz66_2
          try clear hfz72_0
          try clear hfz72_1
          try clear hfz72_2
          try clear hfz75_0
          try clear hfz75_1
          try clear hfz75_2
          try clear hfz7_0
          try clear hfz7_1
          try clear hfz7_2
          try clear hfz7_3
          try clear hfz7_4
          try clear hfz7_5
          try clear hfz7_6
          try clear hfz81_0
          try clear hfz81_1
          try clear hfz81_2
          try clear hfz84_0
          try clear hfz84_1
          try clear hfz84_2
          try clear hfz89_0
          try clear hfz89_1
          try clear hfz89_2
          try clear hfz91_0
          try clear hfz91_1
          try clear hfz91_2
          try clear hfz91_3
          try clear hfz91_4
          try clear hfz91_5
          try clear hfz91_6
          try clear hfz94_0
          try clear hfz94_1
          try clear hfz94_2
          try clear hfz98_0
          try clear hfz98_1
          try clear hfz98_2
          try clear hfz98_3
          try clear hfz98_4
          try clear p1
          try clear p10
          try clear p101
          try clear p16
          try clear p2
          try clear p26
          try clear p3
          try clear p35
          try clear p4
          try clear p44
          try clear p6
          try clear p64
          try clear p7
          try clear p73
          try clear p8
          try clear p82
          try clear q1
          try clear q10
          try clear q101
          try clear q16
          try clear q2
          try clear q26
          try clear q3
          try clear q35
          try clear q4
          try clear q44
          try clear q6
          try clear q64
          try clear q7
          try clear q73
          try clear q8
          try clear q82
          obtain ⟨kq, x1_101, x102000_101, x102001_101, x102002_101, x102005_101, x102006_101, x112003_101, u112003, rfl, HA, HJ101, HO_112003, BK101, BK102, BK111, HB⟩ := hcut
          cases kq with
          | zero => exact absurd HA.out (by simp [ferruleref03_Parse.j3])
          | succ kj101 =>
           have H := HA.out
           clear HA
           simp only [ferruleref03_Parse.j3] at H
           have HC126 := Aside0.mk H
           clear H
           go_upto_region 25 with (fail)
           go_cut [104] (fun v104 wc => ∃ (kq : Nat) (x104_125 : Bool), v104 = .bool x104_125 ∧ Aside0 (ferruleref03_Parse.j4 kq a0 x1_101 x104_125 x103000_2 x103001_2 x103002_2 x112003_101 = some (r1, r2, r3, r4, r5, r6, r7)) ∧ Aside0 (kq ≤ kj101) ∧ Aside0 (Kd.R Kd.string 9 wc w.heap.size (fun _ => True) u112003 x112003_101) ∧ Aside0 (wc.heap[gb101]? = some (.cells #[.int .u64 x102000_101, .int .u64 x102001_101, .int .u64 x102002_101, (.slice none 0 0), (.slice none 0 0), .int .i64 x102005_101, .int .i64 x102006_101] 50 (0, 0))) ∧ Aside0 (wc.heap[gb102]? = some (.cells #[.int .u64 x103000_2, .int .u64 x103001_2, .int .u64 x103002_2] 67 (0, 0))) ∧ Aside0 (wc.heap[gb111]? = some (.cells #[.int .u64 x103000_2, .int .u64 x103001_2, .int .u64 x103002_2, u112003, (.slice none 0 0)] 40 (0, 0))) ∧ Aside0 (Below w.heap.size w wc))
           case first =>
            have H := HC126.out
            clear HC126
            by_cases c127 : x1_101 < (a0.size : Int)
            ·rw [if_pos c127] at H
             have c127b0 : decide (x1_101 < (a0.size : Int)) = true := decide_eq_true c127
             clear c127
             (first | rw [c127b0] | (simp only [i64_w, i32_w]; rw [c127b0]) | skip)
             by_cases c128 : 0 ≤ x1_101
             ·rw [if_pos c128] at H
              have c128b0 : decide (0 ≤ x1_101) = true := decide_eq_true c128
              clear c128
              have H' := Aside0.mk H
              clear H
              have p129 : 0 ≤ (x1_101 : Int) := oD
              have q129 : x1_101 < (a0.size : Int) := oD
              have hx129 := bt_at a0 x1_101
              replace p129 := eq_true p129
              replace q129 := eq_true q129
              go_wp2
              go_meet
              case rel => exact ⟨_, (((bt a0 x1_101) == 43)), bS, H', ⟨by have := HJ2.out; have := HK2.out; have := HJ91.out; have := HJ101.out; first | omega | exact Nat.le_refl _⟩, ⟨aRw HO_112003⟩, ⟨aKw BK101⟩, ⟨aKw BK102⟩, ⟨aKw BK111⟩, ⟨bB⟩⟩
             ·rw [if_neg c128] at H
              exact absurd H (by simp)
            ·rw [if_neg c127] at H
             have c127b0 : decide (x1_101 < (a0.size : Int)) = false := decide_eq_false c127
             clear c127
             (first | rw [c127b0] | (simp only [i64_w, i32_w]; rw [c127b0]) | skip)
             have H' := Aside0.mk H
             clear H
             go_wp2
             go_meet
             case rel => exact ⟨_, (false), bS, H', ⟨by have := HJ2.out; have := HK2.out; have := HJ91.out; have := HJ101.out; first | omega | exact Nat.le_refl _⟩, ⟨aRw HO_112003⟩, ⟨aKw BK101⟩, ⟨aKw BK102⟩, ⟨aKw BK111⟩, ⟨bB⟩⟩
           case rest =>
            clear HC126
            try clear c1
            try clear p1
            try clear q1
            try clear hx1
            try clear c2
            try clear p2
            try clear q2
            try clear c3
            try clear p3
            try clear q3
            try clear c4
            try clear p4
            try clear q4
            try clear c5
            try clear c5b0
            try clear c6
            try clear p6
            try clear q6
            try clear c7
            try clear p7
            try clear q7
            try clear c8
            try clear p8
            try clear q8
            try clear c9
            try clear c9b0
            try clear c10
            try clear c10b0
            try clear p10
            try clear q10
            try clear hx10
            try clear c11
            try clear c11b0
            try clear c11b1
            try clear c12
            try clear p12
            try clear q12
            try clear hx12
            try clear c14
            try clear c14b0
            try clear c15
            try clear c15b0
            try clear c16
            try clear p16
            try clear q16
            try clear hx16
            try clear c17
            try clear c17b0
            try clear c17b1
            try clear c19
            try clear c19b0
            try clear c19b1
            try clear c20
            try clear c20b0
            try clear c20b1
            try clear c23
            try clear c24
            try clear p26
            try clear q26
            try clear c27
            try clear c29
            try clear c29b0
            try clear c29b1
            try clear c32
            try clear c33
            try clear c34
            try clear p35
            try clear q35
            try clear c36
            try clear c38
            try clear c38b0
            try clear c38b1
            try clear c41
            try clear c42
            try clear p44
            try clear q44
            try clear c45
            try clear c49
            try clear c50
            try clear c52
            try clear c54
            try clear c57
            try clear c57b0
            try clear c57b1
            try clear c58
            try clear c58b0
            try clear c58b1
            try clear c61
            try clear c62
            try clear p64
            try clear q64
            try clear c65
            try clear c67
            try clear c67b0
            try clear c67b1
            try clear c70
            try clear c71
            try clear p73
            try clear q73
            try clear c74
            try clear c76
            try clear c76b0
            try clear c76b1
            try clear c79
            try clear c80
            try clear p82
            try clear q82
            try clear c83
            try clear c87
            try clear c88
            try clear c90
            try clear c93
            try clear c96
            try clear c97
            try clear c99
            try clear c99b0
            try clear c100
            try clear c100b0
            try clear p101
            try clear q101
            try clear hx101
            try clear c103
            try clear c105
            try clear c105b0
            try clear c105b1
            try clear c109
            try clear c110
            try clear c111
            try clear c113
            try clear c114
            try clear c119
            try clear c120
            try clear c121
            try clear c123
            try clear c124
            try clear c127
            try clear c127b0
            try clear c128
            try clear c128b0
            try clear p129
            try clear q129
            try clear hx129
            try clear hcz112_0
            try clear hcz112_1
            try clear hcz112_2
            try clear hcz115_0
            try clear hcz115_1
            try clear hcz115_2
            try clear hcz115_3
            try clear hcz115_4
            try clear hcz122_0
            try clear hcz122_1
            try clear hcz122_2
            try clear hcz125_0
            try clear hcz125_1
            try clear hcz125_2
            try clear hcz125_3
            try clear hcz125_4
            try clear hcz125_5
            try clear hcz125_6
            try clear hcz13_0
            try clear hcz13_1
            try clear hcz13_2
            try clear hcz13_3
            try clear hcz13_4
            try clear hcz13_5
            try clear hcz13_6
            try clear hcz25_0
            try clear hcz25_1
            try clear hcz25_2
            try clear hcz28_0
            try clear hcz28_1
            try clear hcz28_2
            try clear hcz34_0
            try clear hcz34_1
            try clear hcz34_2
            try clear hcz37_0
            try clear hcz37_1
            try clear hcz37_2
            try clear hcz43_0
            try clear hcz43_1
            try clear hcz43_2
            try clear hcz46_0
            try clear hcz46_1
            try clear hcz46_2
            try clear hcz51_0
            try clear hcz51_1
            try clear hcz51_2
            try clear hcz53_0
            try clear hcz53_1
            try clear hcz53_2
            try clear hcz53_3
            try clear hcz53_4
            try clear hcz53_5
            try clear hcz53_6
            try clear hcz55_0
            try clear hcz55_1
            try clear hcz55_2
            try clear hcz55_3
            try clear hcz55_4
            try clear hcz55_5
            try clear hcz55_6
            try clear hcz63_0
            try clear hcz63_1
            try clear hcz63_2
            try clear hcz66_0
            try clear hcz66_1
            try clear hcz66_2
            try clear hcz72_0
            try clear hcz72_1
            try clear hcz72_2
            try clear hcz75_0
            try clear hcz75_1
            try clear hcz75_2
            try clear hcz7_0
            try clear hcz7_1
            try clear hcz7_2
            try clear hcz7_3
            try clear hcz7_4
            try clear hcz7_5
            try clear hcz7_6
            try clear hcz81_0
            try clear hcz81_1
            try clear hcz81_2
            try clear hcz84_0
            try clear hcz84_1
            try clear hcz84_2
            try clear hcz89_0
            try clear hcz89_1
            try clear hcz89_2
            try clear hcz91_0
            try clear hcz91_1
            try clear hcz91_2
            try clear hcz91_3
            try clear hcz91_4
            try clear hcz91_5
            try clear hcz91_6
            try clear hcz94_0
            try clear hcz94_1
            try clear hcz94_2
            try clear hcz98_0
            try clear hcz98_1
            try clear hcz98_2
            try clear hcz98_3
            try clear hcz98_4
            try clear hfz112_0
            try clear hfz112_1
            try clear hfz112_2
            try clear hfz115_0
            try clear hfz115_1
            try clear hfz115_2
            try clear hfz115_3
            try clear hfz115_4
            try clear hfz122_0
            try clear hfz122_1
            try clear hfz122_2
            try clear hfz125_0
            try clear hfz125_1
            try clear hfz125_2
            try clear hfz125_3
            try clear hfz125_4
            try clear hfz125_5
            try clear hfz125_6
            try clear hfz13_0
            try clear hfz13_1
            try clear hfz13_2
            try clear hfz13_3
            try clear hfz13_4
            try clear hfz13_5
            try clear hfz13_6
            try clear hfz25_0
            try clear hfz25_1
            try clear hfz25_2
            try clear hfz28_0
            try clear hfz28_1
            try clear hfz28_2
            try clear hfz34_0
            try clear hfz34_1
            try clear hfz34_2
            try clear hfz37_0
            try clear hfz37_1
            try clear hfz37_2
            try clear hfz43_0
            try clear hfz43_1
            try clear hfz43_2
            try clear hfz46_0
            try clear hfz46_1
            try clear hfz46_2
            try clear hfz51_0
            try clear hfz51_1
            try clear hfz51_2
            try clear hfz53_0
            try clear hfz53_1
            try clear hfz53_2
            try clear hfz53_3
            try clear hfz53_4
            try clear hfz53_5
            try clear hfz53_6
            try clear hfz55_0
            try clear hfz55_1
            try clear hfz55_2
            try clear hfz55_3
            try clear hfz55_4
            try clear hfz55_5
            try clear hfz55_6
            try clear hfz63_0
            try clear hfz63_1
            try clear hfz63_2
            try clear hfz66_0
            try clear hfz66_1
            try clear hfz66_2
            try clear hfz72_0
            try clear hfz72_1
            try clear hfz72_2
            try clear hfz75_0
            try clear hfz75_1
            try clear hfz75_2
            try clear hfz7_0
            try clear hfz7_1
            try clear hfz7_2
            try clear hfz7_3
            try clear hfz7_4
            try clear hfz7_5
            try clear hfz7_6
            try clear hfz81_0
            try clear hfz81_1
            try clear hfz81_2
            try clear hfz84_0
            try clear hfz84_1
            try clear hfz84_2
            try clear hfz89_0
            try clear hfz89_1
            try clear hfz89_2
            try clear hfz91_0
            try clear hfz91_1
            try clear hfz91_2
            try clear hfz91_3
            try clear hfz91_4
            try clear hfz91_5
            try clear hfz91_6
            try clear hfz94_0
            try clear hfz94_1
            try clear hfz94_2
            try clear hfz98_0
            try clear hfz98_1
            try clear hfz98_2
            try clear hfz98_3
            try clear hfz98_4
            try clear p1
            try clear p10
            try clear p101
            try clear p129
            try clear p16
            try clear p2
            try clear p26
            try clear p3
            try clear p35
            try clear p4
            try clear p44
            try clear p6
            try clear p64
            try clear p7
            try clear p73
            try clear p8
            try clear p82
            try clear q1
            try clear q10
            try clear q101
            try clear q129
            try clear q16
            try clear q2
            try clear q26
            try clear q3
            try clear q35
            try clear q4
            try clear q44
            try clear q6
            try clear q64
            try clear q7
            try clear q73
            try clear q8
            try clear q82
            obtain ⟨kq, x104_125, rfl, HA, HJ125, HO_112003, BK101, BK102, BK111, HB⟩ := hcut
            cases kq with
            | zero => exact absurd HA.out (by simp [ferruleref03_Parse.j4])
            | succ kj125 =>
             have H := HA.out
             clear HA
             simp only [ferruleref03_Parse.j4] at H
             by_cases c130 : x104_125 = true
             ·subst c130
              have H1 : ((ferruleref02_Row.f kj125 a0 (wrap64 (x1_101 + 1)) false).bind fun bt118 => (if bt118.2.2 = 0 then (some (x103000_2, x103001_2, x103002_2, x112003_101, bt118.1, wrap64 ((wrap64 (x1_101 + 1)) + bt118.2.1), 0)) else (some (0, 0, 0, ([] : List ByteArray), ([] : List ByteArray), wrap64 (x1_101 + 1), bt118.2.2)))) = some (r1, r2, r3, r4, r5, r6, r7) := by rw [if_pos rfl] at H; exact H
              clear H
              have H := H1
              clear H1
              replace H := Option.bind_eq_some_iff.mp H
              obtain ⟨⟨t118, t121, t122⟩, A1310, H⟩ := H
              replace H : (if t122 = 0 then (some (x103000_2, x103001_2, x103002_2, x112003_101, t118, wrap64 ((wrap64 (x1_101 + 1)) + t121), 0)) else (some (0, 0, 0, ([] : List ByteArray), ([] : List ByteArray), wrap64 (x1_101 + 1), t122))) = some (r1, r2, r3, r4, r5, r6, r7) := H
              have A131 := Aside0.mk A1310
              clear A1310
              by_cases c132 : t122 = 0
              ·rw [if_pos c132] at H
               have c132b0 : (t122 == 0) = true := beq_iff_eq.mpr c132
               have c132b1 : (t122 != 0) = false := bne_eq_false_iff_eq.mpr c132
               clear c132
               simp only [Option.some.injEq, Prod.mk.injEq] at H
               obtain ⟨rfl, rfl, rfl, rfl, rfl, rfl, rfl⟩ := H
               go_wp2_with (first | ((with_reducible refine gate_callee (f := 16) rfl ?_); refine goesL_ (some 108) rfl rfl Tryd.func16 (by kernel_rfl) rfl #[.string a0, .int .i64 (wrap64 (x1_101 + 1)), .bool false] rfl bM ?_; (with_reducible refine (ferruleref02_Row.calls kj125 a0 (wrap64 (x1_101 + 1)) false t118 t121 t122 _ A131.out).mono ?_); rintro e w133 ⟨v119, rfl, ho0, hb⟩; refine ⟨_, rfl, ?_⟩; have HO120 := aN ho0 HO_112003 HB; replace HO_112003 := aE HO_112003 ho0 hb; replace BK101 := aK BK101 hb; replace BK102 := aK BK102 hb; replace BK111 := aK BK111 hb; replace HB := aB HB hb; (try clear hb); (try clear hb2); (try clear hk); (try clear hi); (try clear ho0)) | ((with_reducible refine gate_dst (N := 10) rfl ?_); (try (refine gate_guard (by rfl) ?_; dsimp only)); refine box_event ?hg (N := 10) ?hd (cs := #[.slice none 0 0, .int .i64 0, .int .i64 0]) (t := 29) ?hr ?_; (case hd => rfl); (case hg => rfl); (case hr => first | (go_simp; done) | (go_simp; rfl)); intro gb123 hg w134 hbox hb; replace HO_112003 := aR HO_112003 hb; replace HO120 := aR HO120 hb; have BK123 := Aside0.mk hbox; have GW123 := Aside0.mk ((by rw [hg]; exact (below_size bB) : w.heap.size ≤ gb123)); have GE123 := Aside0.mk ((by rw [hg]; exact (below_size bB) : w.heap.size ≤ gb123)); replace HB := aB HB hb; have NB101_123 := Aside0.mk ((by rw [hg]; exact Nat.ne_of_lt (blk_lt (g := gb101) (o := .cells #[.int .u64 x102000_101, .int .u64 x102001_101, .int .u64 x102002_101, .slice none 0 0, .slice none 0 0, .int .i64 x102005_101, .int .i64 x102006_101] 50 (0, 0)) (aKw BK101)) : gb101 ≠ gb123)); have NB123_101 := Aside0.mk ((by rw [hg]; exact Nat.ne_of_gt (blk_lt (g := gb101) (o := .cells #[.int .u64 x102000_101, .int .u64 x102001_101, .int .u64 x102002_101, .slice none 0 0, .slice none 0 0, .int .i64 x102005_101, .int .i64 x102006_101] 50 (0, 0)) (aKw BK101)) : gb123 ≠ gb101)); replace BK101 := aK BK101 hb; have NB102_123 := Aside0.mk ((by rw [hg]; exact Nat.ne_of_lt (blk_lt (g := gb102) (o := .cells #[.int .u64 x103000_2, .int .u64 x103001_2, .int .u64 x103002_2] 67 (0, 0)) (aKw BK102)) : gb102 ≠ gb123)); have NB123_102 := Aside0.mk ((by rw [hg]; exact Nat.ne_of_gt (blk_lt (g := gb102) (o := .cells #[.int .u64 x103000_2, .int .u64 x103001_2, .int .u64 x103002_2] 67 (0, 0)) (aKw BK102)) : gb123 ≠ gb102)); replace BK102 := aK BK102 hb; have NB111_123 := Aside0.mk ((by rw [hg]; exact Nat.ne_of_lt (blk_lt (g := gb111) (o := .cells #[.int .u64 x103000_2, .int .u64 x103001_2, .int .u64 x103002_2, u112003, .slice none 0 0] 40 (0, 0)) (aKw BK111)) : gb111 ≠ gb123)); have NB123_111 := Aside0.mk ((by rw [hg]; exact Nat.ne_of_gt (blk_lt (g := gb111) (o := .cells #[.int .u64 x103000_2, .int .u64 x103001_2, .int .u64 x103002_2, u112003, .slice none 0 0] 40 (0, 0)) (aKw BK111)) : gb123 ≠ gb111)); replace BK111 := aK BK111 hb; clear hb hbox hg; obtain ⟨Ao135, co135, eo135⟩ := Kd.R_slice HO120.out; subst eo135; have hnb136 := NB123_101.out; have hnc136 := NB101_123.out; have hnb137 := NB123_102.out; have hnc137 := NB102_123.out; have hnb138 := NB123_111.out; have hnc138 := NB111_123.out; have hcz139_0 : w134.cell? ⟨gb123, 0, none⟩ = some (.slice none 0 0) := (blk_cell BK123.out 0).trans rfl; have hcz139_1 : w134.cell? ⟨gb123, 1, none⟩ = some (.int .i64 0) := (blk_cell BK123.out 1).trans rfl; have hcz139_2 : w134.cell? ⟨gb123, 2, none⟩ = some (.int .i64 0) := (blk_cell BK123.out 2).trans rfl; have hfz139_0 := blk_frozen BK123.out 0; have hfz139_1 := blk_frozen BK123.out 1; have hfz139_2 := blk_frozen BK123.out 2; have hnb140 := NB111_101.out; have hnc140 := NB101_111.out; have hnb141 := NB111_102.out; have hnc141 := NB102_111.out; have hcz142_0 : w134.cell? ⟨gb111, 0, none⟩ = some (.int .u64 x103000_2) := (blk_cell BK111.out 0).trans rfl; have hcz142_1 : w134.cell? ⟨gb111, 1, none⟩ = some (.int .u64 x103001_2) := (blk_cell BK111.out 1).trans rfl; have hcz142_2 : w134.cell? ⟨gb111, 2, none⟩ = some (.int .u64 x103002_2) := (blk_cell BK111.out 2).trans rfl; have hcz142_3 : w134.cell? ⟨gb111, 3, none⟩ = some (u112003) := (blk_cell BK111.out 3).trans rfl; have hcz142_4 : w134.cell? ⟨gb111, 4, none⟩ = some (.slice none 0 0) := (blk_cell BK111.out 4).trans rfl; have hfz142_0 := blk_frozen BK111.out 0; have hfz142_1 := blk_frozen BK111.out 1; have hfz142_2 := blk_frozen BK111.out 2; have hfz142_3 := blk_frozen BK111.out 3; have hfz142_4 := blk_frozen BK111.out 4; obtain ⟨Ao143, co143, eo143⟩ := Kd.R_slice HO_112003.out; subst eo143; have hnb144 := NB101_102.out; have hnc144 := NB102_101.out; have hcz145_0 : w134.cell? ⟨gb101, 0, none⟩ = some (.int .u64 x102000_101) := (blk_cell BK101.out 0).trans rfl; have hcz145_1 : w134.cell? ⟨gb101, 1, none⟩ = some (.int .u64 x102001_101) := (blk_cell BK101.out 1).trans rfl; have hcz145_2 : w134.cell? ⟨gb101, 2, none⟩ = some (.int .u64 x102002_101) := (blk_cell BK101.out 2).trans rfl; have hcz145_3 : w134.cell? ⟨gb101, 3, none⟩ = some (.slice none 0 0) := (blk_cell BK101.out 3).trans rfl; have hcz145_4 : w134.cell? ⟨gb101, 4, none⟩ = some (.slice none 0 0) := (blk_cell BK101.out 4).trans rfl; have hcz145_5 : w134.cell? ⟨gb101, 5, none⟩ = some (.int .i64 x102005_101) := (blk_cell BK101.out 5).trans rfl; have hcz145_6 : w134.cell? ⟨gb101, 6, none⟩ = some (.int .i64 x102006_101) := (blk_cell BK101.out 6).trans rfl; have hfz145_0 := blk_frozen BK101.out 0; have hfz145_1 := blk_frozen BK101.out 1; have hfz145_2 := blk_frozen BK101.out 2; have hfz145_3 := blk_frozen BK101.out 3; have hfz145_4 := blk_frozen BK101.out 4; have hfz145_5 := blk_frozen BK101.out 5; have hfz145_6 := blk_frozen BK101.out 6))
               refine bodyPost_ret (results_cell_row rfl _ _ gb101 50 #[.int .u64 x103000_2, .int .u64 x103001_2, .int .u64 x103002_2, .slice Ao143 x112003_101.length co143, .slice Ao135 t118.length co135, .int .i64 (wrap64 ((wrap64 (x1_101 + 1)) + t121)), .int .i64 0] (0, 0) _ rfl (by (with_reducible repeat (first | refine blk_drewN ?_ _ | refine blk_drew ?_ | refine blk_alloc ?_ _)); refine blk_put (cs := #[.int .u64 x103000_2, .int .u64 x103001_2, .int .u64 x103002_2, .slice Ao143 x112003_101.length co143, .slice Ao135 t118.length co135, .int .i64 (wrap64 ((wrap64 (x1_101 + 1)) + t121)), .int .i64 x102006_101]) ?_ 6 _ rfl; (with_reducible repeat (first | refine blk_drewN ?_ _ | refine blk_drew ?_ | refine blk_alloc ?_ _)); refine blk_put (cs := #[.int .u64 x103000_2, .int .u64 x103001_2, .int .u64 x103002_2, .slice Ao143 x112003_101.length co143, .slice Ao135 t118.length co135, .int .i64 x102005_101, .int .i64 x102006_101]) ?_ 5 _ rfl; (with_reducible repeat (first | refine blk_drewN ?_ _ | refine blk_drew ?_ | refine blk_alloc ?_ _)); refine blk_put (cs := #[.int .u64 x103000_2, .int .u64 x103001_2, .int .u64 x103002_2, .slice Ao143 x112003_101.length co143, .slice none 0 0, .int .i64 x102005_101, .int .i64 x102006_101]) ?_ 4 _ rfl; (with_reducible repeat (first | refine blk_drewN ?_ _ | refine blk_drew ?_ | refine blk_alloc ?_ _)); refine blk_put (cs := #[.int .u64 x103000_2, .int .u64 x103001_2, .int .u64 x103002_2, .slice none 0 0, .slice none 0 0, .int .i64 x102005_101, .int .i64 x102006_101]) ?_ 3 _ rfl; (with_reducible repeat (first | refine blk_drewN ?_ _ | refine blk_drew ?_ | refine blk_alloc ?_ _)); refine blk_put (cs := #[.int .u64 x103000_2, .int .u64 x103001_2, .int .u64 x102002_101, .slice none 0 0, .slice none 0 0, .int .i64 x102005_101, .int .i64 x102006_101]) ?_ 2 _ rfl; (with_reducible repeat (first | refine blk_drewN ?_ _ | refine blk_drew ?_ | refine blk_alloc ?_ _)); refine blk_put (cs := #[.int .u64 x103000_2, .int .u64 x102001_101, .int .u64 x102002_101, .slice none 0 0, .slice none 0 0, .int .i64 x102005_101, .int .i64 x102006_101]) ?_ 1 _ rfl; (with_reducible repeat (first | refine blk_drewN ?_ _ | refine blk_drew ?_ | refine blk_alloc ?_ _)); refine blk_put (cs := #[.int .u64 x102000_101, .int .u64 x102001_101, .int .u64 x102002_101, .slice none 0 0, .slice none 0 0, .int .i64 x102005_101, .int .i64 x102006_101]) ?_ 0 _ rfl; (with_reducible repeat (first | refine blk_drewN ?_ _ | refine blk_drew ?_ | refine blk_alloc ?_ _)); refine blk_far ?_ NB101_111.out _; (with_reducible repeat (first | refine blk_drewN ?_ _ | refine blk_drew ?_ | refine blk_alloc ?_ _)); refine blk_far ?_ NB101_123.out _; (with_reducible repeat (first | refine blk_drewN ?_ _ | refine blk_drew ?_ | refine blk_alloc ?_ _)); refine blk_far ?_ NB101_123.out _; (with_reducible repeat (first | refine blk_drewN ?_ _ | refine blk_drew ?_ | refine blk_alloc ?_ _)); refine blk_far ?_ NB101_123.out _; (with_reducible repeat (first | refine blk_drewN ?_ _ | refine blk_drew ?_ | refine blk_alloc ?_ _)); exact BK101.out) Tryd.underlying50 rfl (by kernel_rfl)) rfl ?_
               exact ⟨_, _, by first | rfl | (simp [errW_none, errW_some] <;> rfl) | (simp [*, errW_none, errW_some] <;> rfl), by (with_reducible repeat (first | apply Kd.R_alloc | apply Kd.R_drewN | apply Kd.R_drew)); exact Kd.R_mono (Kd.R_far (p := ⟨gb101, 6, none⟩) (Kd.R_far (p := ⟨gb101, 5, none⟩) (Kd.R_far (p := ⟨gb101, 4, none⟩) (Kd.R_far (p := ⟨gb101, 3, none⟩) (Kd.R_far (p := ⟨gb101, 2, none⟩) (Kd.R_far (p := ⟨gb101, 1, none⟩) (Kd.R_far (p := ⟨gb101, 0, none⟩) (Kd.R_far (p := ⟨gb111, 4, none⟩) (Kd.R_far (p := ⟨gb123, 2, none⟩) (Kd.R_far (p := ⟨gb123, 1, none⟩) (Kd.R_far (p := ⟨gb123, 0, none⟩) (Kd.R_types (Kd.R_types (Kd.R_types HO_112003.out BK123.out (by decide)) BK111.out (by decide)) BK101.out (by decide)) (fun _ hk => hk.1.1.2) (.slice Ao135 t118.length co135)) (fun _ hk => hk.1.1.2) (.int .i64 t121)) (fun _ hk => hk.1.1.2) (.int .i64 t122)) (fun _ hk => hk.1.2) (.slice Ao135 t118.length co135)) (fun _ hk => hk.2) (.int .u64 x103000_2)) (fun _ hk => hk.2) (.int .u64 x103001_2)) (fun _ hk => hk.2) (.int .u64 x103002_2)) (fun _ hk => hk.2) (.slice Ao143 x112003_101.length co143)) (fun _ hk => hk.2) (.slice Ao135 t118.length co135)) (fun _ hk => hk.2) (.int .i64 (wrap64 ((wrap64 (x1_101 + 1)) + t121)))) (fun _ hk => hk.2) (.int .i64 0)) (fun _ hk => hk.1.1.1.2), by (with_reducible repeat (first | apply Kd.R_alloc | apply Kd.R_drewN | apply Kd.R_drew)); exact Kd.R_mono (Kd.R_far (p := ⟨gb101, 6, none⟩) (Kd.R_far (p := ⟨gb101, 5, none⟩) (Kd.R_far (p := ⟨gb101, 4, none⟩) (Kd.R_far (p := ⟨gb101, 3, none⟩) (Kd.R_far (p := ⟨gb101, 2, none⟩) (Kd.R_far (p := ⟨gb101, 1, none⟩) (Kd.R_far (p := ⟨gb101, 0, none⟩) (Kd.R_far (p := ⟨gb111, 4, none⟩) (Kd.R_far (p := ⟨gb123, 2, none⟩) (Kd.R_far (p := ⟨gb123, 1, none⟩) (Kd.R_far (p := ⟨gb123, 0, none⟩) (Kd.R_types (Kd.R_types (Kd.R_types HO120.out BK123.out (by decide)) BK111.out (by decide)) BK101.out (by decide)) (fun _ hk => hk.1.1.2) (.slice Ao135 t118.length co135)) (fun _ hk => hk.1.1.2) (.int .i64 t121)) (fun _ hk => hk.1.1.2) (.int .i64 t122)) (fun _ hk => hk.1.2) (.slice Ao135 t118.length co135)) (fun _ hk => hk.2) (.int .u64 x103000_2)) (fun _ hk => hk.2) (.int .u64 x103001_2)) (fun _ hk => hk.2) (.int .u64 x103002_2)) (fun _ hk => hk.2) (.slice Ao143 x112003_101.length co143)) (fun _ hk => hk.2) (.slice Ao135 t118.length co135)) (fun _ hk => hk.2) (.int .i64 (wrap64 ((wrap64 (x1_101 + 1)) + t121)))) (fun _ hk => hk.2) (.int .i64 0)) (fun _ hk => hk.1.1.1.2), bB⟩
              ·rw [if_neg c132] at H
               have c132b0 : (t122 == 0) = false := beq_eq_false_iff_ne.mpr c132
               have c132b1 : (t122 != 0) = true := bne_iff_ne.mpr c132
               simp only [Option.some.injEq, Prod.mk.injEq] at H
               obtain ⟨rfl, rfl, rfl, rfl, rfl, rfl, rfl⟩ := H
               go_wp2_with (first | ((with_reducible refine gate_callee (f := 16) rfl ?_); refine goesL_ (some 108) rfl rfl Tryd.func16 (by kernel_rfl) rfl #[.string a0, .int .i64 (wrap64 (x1_101 + 1)), .bool false] rfl bM ?_; (with_reducible refine (ferruleref02_Row.calls kj125 a0 (wrap64 (x1_101 + 1)) false t118 t121 t122 _ A131.out).mono ?_); rintro e w146 ⟨v119, rfl, ho0, hb⟩; refine ⟨_, rfl, ?_⟩; have HO120 := aN ho0 HO_112003 HB; replace HO_112003 := aE HO_112003 ho0 hb; replace BK101 := aK BK101 hb; replace BK102 := aK BK102 hb; replace BK111 := aK BK111 hb; replace HB := aB HB hb; (try clear hb); (try clear hb2); (try clear hk); (try clear hi); (try clear ho0)) | ((with_reducible refine gate_dst (N := 10) rfl ?_); (try (refine gate_guard (by rfl) ?_; dsimp only)); refine box_event ?hg (N := 10) ?hd (cs := #[.slice none 0 0, .int .i64 0, .int .i64 0]) (t := 29) ?hr ?_; (case hd => rfl); (case hg => rfl); (case hr => first | (go_simp; done) | (go_simp; rfl)); intro gb123 hg w147 hbox hb; replace HO_112003 := aR HO_112003 hb; replace HO120 := aR HO120 hb; have BK123 := Aside0.mk hbox; have GW123 := Aside0.mk ((by rw [hg]; exact (below_size bB) : w.heap.size ≤ gb123)); have GE123 := Aside0.mk ((by rw [hg]; exact (below_size bB) : w.heap.size ≤ gb123)); replace HB := aB HB hb; have NB101_123 := Aside0.mk ((by rw [hg]; exact Nat.ne_of_lt (blk_lt (g := gb101) (o := .cells #[.int .u64 x102000_101, .int .u64 x102001_101, .int .u64 x102002_101, .slice none 0 0, .slice none 0 0, .int .i64 x102005_101, .int .i64 x102006_101] 50 (0, 0)) (aKw BK101)) : gb101 ≠ gb123)); have NB123_101 := Aside0.mk ((by rw [hg]; exact Nat.ne_of_gt (blk_lt (g := gb101) (o := .cells #[.int .u64 x102000_101, .int .u64 x102001_101, .int .u64 x102002_101, .slice none 0 0, .slice none 0 0, .int .i64 x102005_101, .int .i64 x102006_101] 50 (0, 0)) (aKw BK101)) : gb123 ≠ gb101)); replace BK101 := aK BK101 hb; have NB102_123 := Aside0.mk ((by rw [hg]; exact Nat.ne_of_lt (blk_lt (g := gb102) (o := .cells #[.int .u64 x103000_2, .int .u64 x103001_2, .int .u64 x103002_2] 67 (0, 0)) (aKw BK102)) : gb102 ≠ gb123)); have NB123_102 := Aside0.mk ((by rw [hg]; exact Nat.ne_of_gt (blk_lt (g := gb102) (o := .cells #[.int .u64 x103000_2, .int .u64 x103001_2, .int .u64 x103002_2] 67 (0, 0)) (aKw BK102)) : gb123 ≠ gb102)); replace BK102 := aK BK102 hb; have NB111_123 := Aside0.mk ((by rw [hg]; exact Nat.ne_of_lt (blk_lt (g := gb111) (o := .cells #[.int .u64 x103000_2, .int .u64 x103001_2, .int .u64 x103002_2, u112003, .slice none 0 0] 40 (0, 0)) (aKw BK111)) : gb111 ≠ gb123)); have NB123_111 := Aside0.mk ((by rw [hg]; exact Nat.ne_of_gt (blk_lt (g := gb111) (o := .cells #[.int .u64 x103000_2, .int .u64 x103001_2, .int .u64 x103002_2, u112003, .slice none 0 0] 40 (0, 0)) (aKw BK111)) : gb123 ≠ gb111)); replace BK111 := aK BK111 hb; clear hb hbox hg; obtain ⟨Ao148, co148, eo148⟩ := Kd.R_slice HO120.out; subst eo148; have hnb149 := NB123_101.out; have hnc149 := NB101_123.out; have hnb150 := NB123_102.out; have hnc150 := NB102_123.out; have hnb151 := NB123_111.out; have hnc151 := NB111_123.out; have hcz152_0 : w147.cell? ⟨gb123, 0, none⟩ = some (.slice none 0 0) := (blk_cell BK123.out 0).trans rfl; have hcz152_1 : w147.cell? ⟨gb123, 1, none⟩ = some (.int .i64 0) := (blk_cell BK123.out 1).trans rfl; have hcz152_2 : w147.cell? ⟨gb123, 2, none⟩ = some (.int .i64 0) := (blk_cell BK123.out 2).trans rfl; have hfz152_0 := blk_frozen BK123.out 0; have hfz152_1 := blk_frozen BK123.out 1; have hfz152_2 := blk_frozen BK123.out 2; have hnb153 := NB101_102.out; have hnc153 := NB102_101.out; have hnb154 := NB101_111.out; have hnc154 := NB111_101.out; have hcz155_0 : w147.cell? ⟨gb101, 0, none⟩ = some (.int .u64 x102000_101) := (blk_cell BK101.out 0).trans rfl; have hcz155_1 : w147.cell? ⟨gb101, 1, none⟩ = some (.int .u64 x102001_101) := (blk_cell BK101.out 1).trans rfl; have hcz155_2 : w147.cell? ⟨gb101, 2, none⟩ = some (.int .u64 x102002_101) := (blk_cell BK101.out 2).trans rfl; have hcz155_3 : w147.cell? ⟨gb101, 3, none⟩ = some (.slice none 0 0) := (blk_cell BK101.out 3).trans rfl; have hcz155_4 : w147.cell? ⟨gb101, 4, none⟩ = some (.slice none 0 0) := (blk_cell BK101.out 4).trans rfl; have hcz155_5 : w147.cell? ⟨gb101, 5, none⟩ = some (.int .i64 x102005_101) := (blk_cell BK101.out 5).trans rfl; have hcz155_6 : w147.cell? ⟨gb101, 6, none⟩ = some (.int .i64 x102006_101) := (blk_cell BK101.out 6).trans rfl; have hfz155_0 := blk_frozen BK101.out 0; have hfz155_1 := blk_frozen BK101.out 1; have hfz155_2 := blk_frozen BK101.out 2; have hfz155_3 := blk_frozen BK101.out 3; have hfz155_4 := blk_frozen BK101.out 4; have hfz155_5 := blk_frozen BK101.out 5; have hfz155_6 := blk_frozen BK101.out 6))
               refine bodyPost_ret (results_cell_row rfl _ _ gb101 50 #[.int .u64 0, .int .u64 0, .int .u64 0, .slice none 0 0, .slice none 0 0, .int .i64 (wrap64 (x1_101 + 1)), .int .i64 t122] (0, 0) _ rfl (by (with_reducible repeat (first | refine blk_drewN ?_ _ | refine blk_drew ?_ | refine blk_alloc ?_ _)); refine blk_put (cs := #[.int .u64 0, .int .u64 0, .int .u64 0, .slice none 0 0, .slice none 0 0, .int .i64 (wrap64 (x1_101 + 1)), .int .i64 x102006_101]) ?_ 6 _ rfl; (with_reducible repeat (first | refine blk_drewN ?_ _ | refine blk_drew ?_ | refine blk_alloc ?_ _)); refine blk_put (cs := #[.int .u64 0, .int .u64 0, .int .u64 0, .slice none 0 0, .slice none 0 0, .int .i64 x102005_101, .int .i64 x102006_101]) ?_ 5 _ rfl; (with_reducible repeat (first | refine blk_drewN ?_ _ | refine blk_drew ?_ | refine blk_alloc ?_ _)); refine blk_put (cs := #[.int .u64 0, .int .u64 0, .int .u64 0, .slice none 0 0, .slice none 0 0, .int .i64 x102005_101, .int .i64 x102006_101]) ?_ 4 _ rfl; (with_reducible repeat (first | refine blk_drewN ?_ _ | refine blk_drew ?_ | refine blk_alloc ?_ _)); refine blk_put (cs := #[.int .u64 0, .int .u64 0, .int .u64 0, .slice none 0 0, .slice none 0 0, .int .i64 x102005_101, .int .i64 x102006_101]) ?_ 3 _ rfl; (with_reducible repeat (first | refine blk_drewN ?_ _ | refine blk_drew ?_ | refine blk_alloc ?_ _)); refine blk_put (cs := #[.int .u64 0, .int .u64 0, .int .u64 x102002_101, .slice none 0 0, .slice none 0 0, .int .i64 x102005_101, .int .i64 x102006_101]) ?_ 2 _ rfl; (with_reducible repeat (first | refine blk_drewN ?_ _ | refine blk_drew ?_ | refine blk_alloc ?_ _)); refine blk_put (cs := #[.int .u64 0, .int .u64 x102001_101, .int .u64 x102002_101, .slice none 0 0, .slice none 0 0, .int .i64 x102005_101, .int .i64 x102006_101]) ?_ 1 _ rfl; (with_reducible repeat (first | refine blk_drewN ?_ _ | refine blk_drew ?_ | refine blk_alloc ?_ _)); refine blk_put (cs := #[.int .u64 x102000_101, .int .u64 x102001_101, .int .u64 x102002_101, .slice none 0 0, .slice none 0 0, .int .i64 x102005_101, .int .i64 x102006_101]) ?_ 0 _ rfl; (with_reducible repeat (first | refine blk_drewN ?_ _ | refine blk_drew ?_ | refine blk_alloc ?_ _)); refine blk_far ?_ NB101_123.out _; (with_reducible repeat (first | refine blk_drewN ?_ _ | refine blk_drew ?_ | refine blk_alloc ?_ _)); refine blk_far ?_ NB101_123.out _; (with_reducible repeat (first | refine blk_drewN ?_ _ | refine blk_drew ?_ | refine blk_alloc ?_ _)); refine blk_far ?_ NB101_123.out _; (with_reducible repeat (first | refine blk_drewN ?_ _ | refine blk_drew ?_ | refine blk_alloc ?_ _)); exact BK101.out) Tryd.underlying50 rfl (by kernel_rfl)) rfl ?_
               exact ⟨_, _, by first | rfl | (simp [errW_none, errW_some] <;> rfl) | (simp [*, errW_none, errW_some] <;> rfl), by first | exact Kd.R_nil _ _ _ _ _ | exact Kd.N_nil _ _ _ _ _ | exact Kd.V_nil _ _ _ _ _ | exact Kd.Q_nil _ _ _ _ _ | exact Kd.S_nil _ _ _ _ _, by first | exact Kd.R_nil _ _ _ _ _ | exact Kd.N_nil _ _ _ _ _ | exact Kd.V_nil _ _ _ _ _ | exact Kd.Q_nil _ _ _ _ _ | exact Kd.S_nil _ _ _ _ _, bB⟩
             ·replace c130 := Bool.eq_false_iff.mpr c130
              subst c130
              have H1 : (some (x103000_2, x103001_2, x103002_2, x112003_101, ([] : List ByteArray), x1_101, 0)) = some (r1, r2, r3, r4, r5, r6, r7) := by rw [if_neg (show ¬ (false = true) by decide)] at H; exact H
              clear H
              have H := H1
              clear H1
              simp only [Option.some.injEq, Prod.mk.injEq] at H
              obtain ⟨rfl, rfl, rfl, rfl, rfl, rfl, rfl⟩ := H
              have hnb156 := NB111_101.out
              have hnc156 := NB101_111.out
              have hnb157 := NB111_102.out
              have hnc157 := NB102_111.out
              have hcz158_0 : wc.cell? ⟨gb111, 0, none⟩ = some (.int .u64 x103000_2) := (blk_cell BK111.out 0).trans rfl
              have hcz158_1 : wc.cell? ⟨gb111, 1, none⟩ = some (.int .u64 x103001_2) := (blk_cell BK111.out 1).trans rfl
              have hcz158_2 : wc.cell? ⟨gb111, 2, none⟩ = some (.int .u64 x103002_2) := (blk_cell BK111.out 2).trans rfl
              have hcz158_3 : wc.cell? ⟨gb111, 3, none⟩ = some (u112003) := (blk_cell BK111.out 3).trans rfl
              have hcz158_4 : wc.cell? ⟨gb111, 4, none⟩ = some (.slice none 0 0) := (blk_cell BK111.out 4).trans rfl
              have hfz158_0 := blk_frozen BK111.out 0
              have hfz158_1 := blk_frozen BK111.out 1
              have hfz158_2 := blk_frozen BK111.out 2
              have hfz158_3 := blk_frozen BK111.out 3
              have hfz158_4 := blk_frozen BK111.out 4
              obtain ⟨Ao159, co159, eo159⟩ := Kd.R_slice HO_112003.out
              subst eo159
              have hnb160 := NB101_102.out
              have hnc160 := NB102_101.out
              have hcz161_0 : wc.cell? ⟨gb101, 0, none⟩ = some (.int .u64 x102000_101) := (blk_cell BK101.out 0).trans rfl
              have hcz161_1 : wc.cell? ⟨gb101, 1, none⟩ = some (.int .u64 x102001_101) := (blk_cell BK101.out 1).trans rfl
              have hcz161_2 : wc.cell? ⟨gb101, 2, none⟩ = some (.int .u64 x102002_101) := (blk_cell BK101.out 2).trans rfl
              have hcz161_3 : wc.cell? ⟨gb101, 3, none⟩ = some (.slice none 0 0) := (blk_cell BK101.out 3).trans rfl
              have hcz161_4 : wc.cell? ⟨gb101, 4, none⟩ = some (.slice none 0 0) := (blk_cell BK101.out 4).trans rfl
              have hcz161_5 : wc.cell? ⟨gb101, 5, none⟩ = some (.int .i64 x102005_101) := (blk_cell BK101.out 5).trans rfl
              have hcz161_6 : wc.cell? ⟨gb101, 6, none⟩ = some (.int .i64 x102006_101) := (blk_cell BK101.out 6).trans rfl
              have hfz161_0 := blk_frozen BK101.out 0
              have hfz161_1 := blk_frozen BK101.out 1
              have hfz161_2 := blk_frozen BK101.out 2
              have hfz161_3 := blk_frozen BK101.out 3
              have hfz161_4 := blk_frozen BK101.out 4
              have hfz161_5 := blk_frozen BK101.out 5
              have hfz161_6 := blk_frozen BK101.out 6
              go_wp2
              refine bodyPost_ret (results_cell_row rfl _ _ gb101 50 #[.int .u64 x103000_2, .int .u64 x103001_2, .int .u64 x103002_2, .slice Ao159 x112003_101.length co159, .slice none 0 0, .int .i64 x1_101, .int .i64 0] (0, 0) _ rfl (by (with_reducible repeat (first | refine blk_drewN ?_ _ | refine blk_drew ?_ | refine blk_alloc ?_ _)); refine blk_put (cs := #[.int .u64 x103000_2, .int .u64 x103001_2, .int .u64 x103002_2, .slice Ao159 x112003_101.length co159, .slice none 0 0, .int .i64 x1_101, .int .i64 x102006_101]) ?_ 6 _ rfl; (with_reducible repeat (first | refine blk_drewN ?_ _ | refine blk_drew ?_ | refine blk_alloc ?_ _)); refine blk_put (cs := #[.int .u64 x103000_2, .int .u64 x103001_2, .int .u64 x103002_2, .slice Ao159 x112003_101.length co159, .slice none 0 0, .int .i64 x102005_101, .int .i64 x102006_101]) ?_ 5 _ rfl; (with_reducible repeat (first | refine blk_drewN ?_ _ | refine blk_drew ?_ | refine blk_alloc ?_ _)); refine blk_put (cs := #[.int .u64 x103000_2, .int .u64 x103001_2, .int .u64 x103002_2, .slice Ao159 x112003_101.length co159, .slice none 0 0, .int .i64 x102005_101, .int .i64 x102006_101]) ?_ 4 _ rfl; (with_reducible repeat (first | refine blk_drewN ?_ _ | refine blk_drew ?_ | refine blk_alloc ?_ _)); refine blk_put (cs := #[.int .u64 x103000_2, .int .u64 x103001_2, .int .u64 x103002_2, .slice none 0 0, .slice none 0 0, .int .i64 x102005_101, .int .i64 x102006_101]) ?_ 3 _ rfl; (with_reducible repeat (first | refine blk_drewN ?_ _ | refine blk_drew ?_ | refine blk_alloc ?_ _)); refine blk_put (cs := #[.int .u64 x103000_2, .int .u64 x103001_2, .int .u64 x102002_101, .slice none 0 0, .slice none 0 0, .int .i64 x102005_101, .int .i64 x102006_101]) ?_ 2 _ rfl; (with_reducible repeat (first | refine blk_drewN ?_ _ | refine blk_drew ?_ | refine blk_alloc ?_ _)); refine blk_put (cs := #[.int .u64 x103000_2, .int .u64 x102001_101, .int .u64 x102002_101, .slice none 0 0, .slice none 0 0, .int .i64 x102005_101, .int .i64 x102006_101]) ?_ 1 _ rfl; (with_reducible repeat (first | refine blk_drewN ?_ _ | refine blk_drew ?_ | refine blk_alloc ?_ _)); refine blk_put (cs := #[.int .u64 x102000_101, .int .u64 x102001_101, .int .u64 x102002_101, .slice none 0 0, .slice none 0 0, .int .i64 x102005_101, .int .i64 x102006_101]) ?_ 0 _ rfl; (with_reducible repeat (first | refine blk_drewN ?_ _ | refine blk_drew ?_ | refine blk_alloc ?_ _)); exact BK101.out) Tryd.underlying50 rfl (by kernel_rfl)) rfl ?_
              exact ⟨_, _, by first | rfl | (simp [errW_none, errW_some] <;> rfl) | (simp [*, errW_none, errW_some] <;> rfl), by (with_reducible repeat (first | apply Kd.R_alloc | apply Kd.R_drewN | apply Kd.R_drew)); exact Kd.R_mono (aG HO_112003 BK101) (fun _ hk => (by simp [Value.ownBlock])), by first | exact Kd.R_nil _ _ _ _ _ | exact Kd.N_nil _ _ _ _ _ | exact Kd.V_nil _ _ _ _ _ | exact Kd.Q_nil _ _ _ _ _ | exact Kd.S_nil _ _ _ _ _, bB⟩

end Go.Proofs.YtildmfegfkiknaaDoor.X
