-- Written by a program of this session (wip/xp), out of the translation. Not trusted: Lean checks it.
import Derived.Test.YtildmfegfkiknaaDoorX0
import Derived.Test.YtildmfegfkiknaaDoorXn59
import Derived.Test.YtildmfegfkiknaaDoorXn60
-- shrunk
namespace Go.Proofs.YtildmfegfkiknaaDoor.X
open Go.RowKit Go.Proofs.YtildmfegfkiknaaDoorW.PrintWords Go.Proofs.YtildmfegfkiknaaDoorW.PrintLast Go.Proofs.YtildmfegfkiknaaDoorW.PrintMore
attribute [local go_sem] Lab.str_gtr Lab.str_leq Lab.str_geq max2_int min2_int max_two min_two max_three min_three max_four min_four   -- for this text's walks alone
set_option linter.unusedVariables false
set_option linter.unusedSimpArgs false

/-! ### semver_Parse: function 33 -/
mutual
def semver_Parse.j0 : Nat → List Int → Int → Bool → Int → Int → Int → Option (Int × Int × Int × List ByteArray × List ByteArray × Int × Int)
 | 0, _, _, _, _, _, _ => none
 | k + 1, x0, x1, x20, x102000, x102001, x102002 => if x20 = true then (some (x102000, x102001, x102002, ([] : List ByteArray), ([] : List ByteArray), 0, 1)) else (semver_Parse.l0 k x0 x1 0 x102000 x102001 x102002 0 0 0)
def semver_Parse.l0 : Nat → List Int → Int → Int → Int → Int → Int → Int → Int → Int → Option (Int × Int × Int × List ByteArray × List ByteArray × Int × Int)
 | 0, _, _, _, _, _, _, _, _, _ => none
 | k + 1, x0, x1, x8, x102000, x102001, x102002, x103000, x103001, x103002 => (num_Parse.f k x0 x1).bind fun bt103 => (if bt103.2.2 = 0 then (if x8 < 2 then (semver_Parse.j2 k x0 x1 x8 bt103.1 bt103.2.1 ((wrap64 (x1 + bt103.2.1)) == (x0.length : Int)) x102000 x102001 x102002 x103000 x103001 x103002) else (semver_Parse.j2 k x0 x1 x8 bt103.1 bt103.2.1 false x102000 x102001 x102002 x103000 x103001 x103002)) else (some (x102000, x102001, x102002, ([] : List ByteArray), ([] : List ByteArray), x1, bt103.2.2)))
def semver_Parse.j3 : Nat → List Int → Int → Int → Int → Int → Int → Int → Int → Int → Int → Int → Option (Int × Int × Int × List ByteArray × List ByteArray × Int × Int)
 | 0, _, _, _, _, _, _, _, _, _, _, _ => none
 | k + 1, x0, x1, x8, x9, x10, x102000, x102001, x102002, x103000, x103001, x103002 => if x8 = 0 then (if x8 < 2 then (semver_Parse.l0 k x0 (wrap64 ((wrap64 (x1 + x10)) + 1)) (wrap64 (x8 + 1)) x102000 x102001 x102002 x9 x103001 x103002) else ((semver_row.f k x0 (wrap64 (x1 + x10)) 45).bind fun bt107 => (if bt107.2.2 = 0 then ((semver_row.f k x0 bt107.2.1 43).bind fun bt112 => (if bt112.2.2 = 0 then (some (x9, x103001, x103002, bt107.1, bt112.1, bt112.2.1, 0)) else (some (x102000, x102001, x102002, ([] : List ByteArray), ([] : List ByteArray), bt112.2.1, bt112.2.2)))) else (some (x102000, x102001, x102002, ([] : List ByteArray), ([] : List ByteArray), bt107.2.1, bt107.2.2))))) else (if x8 = 1 then (if x8 < 2 then (semver_Parse.l0 k x0 (wrap64 ((wrap64 (x1 + x10)) + 1)) (wrap64 (x8 + 1)) x102000 x102001 x102002 x103000 x9 x103002) else ((semver_row.f k x0 (wrap64 (x1 + x10)) 45).bind fun bt117 => (if bt117.2.2 = 0 then ((semver_row.f k x0 bt117.2.1 43).bind fun bt122 => (if bt122.2.2 = 0 then (some (x103000, x9, x103002, bt117.1, bt122.1, bt122.2.1, 0)) else (some (x102000, x102001, x102002, ([] : List ByteArray), ([] : List ByteArray), bt122.2.1, bt122.2.2)))) else (some (x102000, x102001, x102002, ([] : List ByteArray), ([] : List ByteArray), bt117.2.1, bt117.2.2))))) else (if x8 = 2 then (if x8 < 2 then (semver_Parse.l0 k x0 (wrap64 ((wrap64 (x1 + x10)) + 1)) (wrap64 (x8 + 1)) x102000 x102001 x102002 x103000 x103001 x9) else ((semver_row.f k x0 (wrap64 (x1 + x10)) 45).bind fun bt127 => (if bt127.2.2 = 0 then ((semver_row.f k x0 bt127.2.1 43).bind fun bt132 => (if bt132.2.2 = 0 then (some (x103000, x103001, x9, bt127.1, bt132.1, bt132.2.1, 0)) else (some (x102000, x102001, x102002, ([] : List ByteArray), ([] : List ByteArray), bt132.2.1, bt132.2.2)))) else (some (x102000, x102001, x102002, ([] : List ByteArray), ([] : List ByteArray), bt127.2.1, bt127.2.2))))) else (none)))
def semver_Parse.j2 : Nat → List Int → Int → Int → Int → Int → Bool → Int → Int → Int → Int → Int → Int → Option (Int × Int × Int × List ByteArray × List ByteArray × Int × Int)
 | 0, _, _, _, _, _, _, _, _, _, _, _, _ => none
 | k + 1, x0, x1, x8, x9, x10, x35, x102000, x102001, x102002, x103000, x103001, x103002 => if x35 = true then (some (x102000, x102001, x102002, ([] : List ByteArray), ([] : List ByteArray), wrap64 (x1 + x10), 2)) else (if x8 < 2 then (if 0 ≤ (wrap64 (x1 + x10)) then (if (wrap64 (x1 + x10)) < (x0.length : Int) then (if (rd x0 (wrap64 (x1 + x10))) = 46 then (semver_Parse.j3 k x0 x1 x8 x9 x10 x102000 x102001 x102002 x103000 x103001 x103002) else (some (x102000, x102001, x102002, ([] : List ByteArray), ([] : List ByteArray), wrap64 (x1 + x10), 3))) else (none)) else (none)) else (semver_Parse.j3 k x0 x1 x8 x9 x10 x102000 x102001 x102002 x103000 x103001 x103002))
end
def semver_Parse.f (k : Nat) (l0 : List Int) (a1 : Int) : Option (Int × Int × Int × List ByteArray × List ByteArray × Int × Int) := if a1 < 0 then (semver_Parse.j0 k l0 a1 true 0 0 0) else (semver_Parse.j0 k l0 a1 (decide (a1 > (l0.length : Int))) 0 0 0)
theorem semver_Parse.mono_l : ∀ k, (∀ y0 y1 y2 y3 y4 y5, LeO (semver_Parse.j0 k y0 y1 y2 y3 y4 y5) (semver_Parse.j0 (k + 1) y0 y1 y2 y3 y4 y5)) ∧ (∀ y0 y1 y2 y3 y4 y5 y6 y7 y8, LeO (semver_Parse.l0 k y0 y1 y2 y3 y4 y5 y6 y7 y8) (semver_Parse.l0 (k + 1) y0 y1 y2 y3 y4 y5 y6 y7 y8)) ∧ (∀ y0 y1 y2 y3 y4 y5 y6 y7 y8 y9 y10, LeO (semver_Parse.j3 k y0 y1 y2 y3 y4 y5 y6 y7 y8 y9 y10) (semver_Parse.j3 (k + 1) y0 y1 y2 y3 y4 y5 y6 y7 y8 y9 y10)) ∧ (∀ y0 y1 y2 y3 y4 y5 y6 y7 y8 y9 y10 y11, LeO (semver_Parse.j2 k y0 y1 y2 y3 y4 y5 y6 y7 y8 y9 y10 y11) (semver_Parse.j2 (k + 1) y0 y1 y2 y3 y4 y5 y6 y7 y8 y9 y10 y11))
 | 0 => ⟨fun _ _ _ _ _ _ r h => by simp [semver_Parse.j0] at h, fun _ _ _ _ _ _ _ _ _ r h => by simp [semver_Parse.l0] at h, fun _ _ _ _ _ _ _ _ _ _ _ r h => by simp [semver_Parse.j3] at h, fun _ _ _ _ _ _ _ _ _ _ _ _ r h => by simp [semver_Parse.j2] at h⟩
 | k + 1 => by
  obtain ⟨ih0, ih1, ih2, ih3⟩ := semver_Parse.mono_l k
  refine ⟨?_, ?_, ?_, ?_⟩
  ·intro y0 y1 y2 y3 y4 y5
   unfold semver_Parse.j0
   repeat' first
   | (with_reducible exact ih0 _ _ _ _ _ _)
   | (with_reducible exact ih1 _ _ _ _ _ _ _ _ _)
   | (with_reducible exact ih2 _ _ _ _ _ _ _ _ _ _ _)
   | (with_reducible exact ih3 _ _ _ _ _ _ _ _ _ _ _ _)
   | (with_reducible exact num_Parse.mono _ _ _)
   | (with_reducible exact semver_row.mono _ _ _ _)
   | (with_reducible exact LeO.refl _)
   | (with_reducible exact LeO.none _)
   | (with_reducible refine LeO.ite ?_ ?_)
   | (with_reducible refine LeO.bind ?_ (fun _ => ?_))
   | exact ih0 _ _ _ _ _ _
   | exact ih1 _ _ _ _ _ _ _ _ _
   | exact ih2 _ _ _ _ _ _ _ _ _ _ _
   | exact ih3 _ _ _ _ _ _ _ _ _ _ _ _
   | exact num_Parse.mono _ _ _
   | exact semver_row.mono _ _ _ _
   | exact LeO.none _
   | refine LeO.ite ?_ ?_
   | refine LeO.bind ?_ (fun _ => ?_)
  ·intro y0 y1 y2 y3 y4 y5 y6 y7 y8
   unfold semver_Parse.l0
   repeat' first
   | (with_reducible exact ih0 _ _ _ _ _ _)
   | (with_reducible exact ih1 _ _ _ _ _ _ _ _ _)
   | (with_reducible exact ih2 _ _ _ _ _ _ _ _ _ _ _)
   | (with_reducible exact ih3 _ _ _ _ _ _ _ _ _ _ _ _)
   | (with_reducible exact num_Parse.mono _ _ _)
   | (with_reducible exact semver_row.mono _ _ _ _)
   | (with_reducible exact LeO.refl _)
   | (with_reducible exact LeO.none _)
   | (with_reducible refine LeO.ite ?_ ?_)
   | (with_reducible refine LeO.bind ?_ (fun _ => ?_))
   | exact ih0 _ _ _ _ _ _
   | exact ih1 _ _ _ _ _ _ _ _ _
   | exact ih2 _ _ _ _ _ _ _ _ _ _ _
   | exact ih3 _ _ _ _ _ _ _ _ _ _ _ _
   | exact num_Parse.mono _ _ _
   | exact semver_row.mono _ _ _ _
   | exact LeO.none _
   | refine LeO.ite ?_ ?_
   | refine LeO.bind ?_ (fun _ => ?_)
  ·intro y0 y1 y2 y3 y4 y5 y6 y7 y8 y9 y10
   unfold semver_Parse.j3
   repeat' first
   | (with_reducible exact ih0 _ _ _ _ _ _)
   | (with_reducible exact ih1 _ _ _ _ _ _ _ _ _)
   | (with_reducible exact ih2 _ _ _ _ _ _ _ _ _ _ _)
   | (with_reducible exact ih3 _ _ _ _ _ _ _ _ _ _ _ _)
   | (with_reducible exact num_Parse.mono _ _ _)
   | (with_reducible exact semver_row.mono _ _ _ _)
   | (with_reducible exact LeO.refl _)
   | (with_reducible exact LeO.none _)
   | (with_reducible refine LeO.ite ?_ ?_)
   | (with_reducible refine LeO.bind ?_ (fun _ => ?_))
   | exact ih0 _ _ _ _ _ _
   | exact ih1 _ _ _ _ _ _ _ _ _
   | exact ih2 _ _ _ _ _ _ _ _ _ _ _
   | exact ih3 _ _ _ _ _ _ _ _ _ _ _ _
   | exact num_Parse.mono _ _ _
   | exact semver_row.mono _ _ _ _
   | exact LeO.none _
   | refine LeO.ite ?_ ?_
   | refine LeO.bind ?_ (fun _ => ?_)
  ·intro y0 y1 y2 y3 y4 y5 y6 y7 y8 y9 y10 y11
   unfold semver_Parse.j2
   repeat' first
   | (with_reducible exact ih0 _ _ _ _ _ _)
   | (with_reducible exact ih1 _ _ _ _ _ _ _ _ _)
   | (with_reducible exact ih2 _ _ _ _ _ _ _ _ _ _ _)
   | (with_reducible exact ih3 _ _ _ _ _ _ _ _ _ _ _ _)
   | (with_reducible exact num_Parse.mono _ _ _)
   | (with_reducible exact semver_row.mono _ _ _ _)
   | (with_reducible exact LeO.refl _)
   | (with_reducible exact LeO.none _)
   | (with_reducible refine LeO.ite ?_ ?_)
   | (with_reducible refine LeO.bind ?_ (fun _ => ?_))
   | exact ih0 _ _ _ _ _ _
   | exact ih1 _ _ _ _ _ _ _ _ _
   | exact ih2 _ _ _ _ _ _ _ _ _ _ _
   | exact ih3 _ _ _ _ _ _ _ _ _ _ _ _
   | exact num_Parse.mono _ _ _
   | exact semver_row.mono _ _ _ _
   | exact LeO.none _
   | refine LeO.ite ?_ ?_
   | refine LeO.bind ?_ (fun _ => ?_)
theorem semver_Parse.mono : ∀ a0 a1 k, LeO (semver_Parse.f k a0 a1) (semver_Parse.f (k + 1) a0 a1) := by
 intro a0 a1 k
 obtain ⟨ih0, ih1, ih2, ih3⟩ := semver_Parse.mono_l k
 unfold semver_Parse.f
 repeat' first
   | (with_reducible exact ih0 _ _ _ _ _ _)
   | (with_reducible exact ih1 _ _ _ _ _ _ _ _ _)
   | (with_reducible exact ih2 _ _ _ _ _ _ _ _ _ _ _)
   | (with_reducible exact ih3 _ _ _ _ _ _ _ _ _ _ _ _)
   | (with_reducible exact num_Parse.mono _ _ _)
   | (with_reducible exact semver_row.mono _ _ _ _)
   | (with_reducible exact LeO.refl _)
   | (with_reducible exact LeO.none _)
   | (with_reducible refine LeO.ite ?_ ?_)
   | (with_reducible refine LeO.bind ?_ (fun _ => ?_))
   | exact ih0 _ _ _ _ _ _
   | exact ih1 _ _ _ _ _ _ _ _ _
   | exact ih2 _ _ _ _ _ _ _ _ _ _ _
   | exact ih3 _ _ _ _ _ _ _ _ _ _ _ _
   | exact num_Parse.mono _ _ _
   | exact semver_row.mono _ _ _ _
   | exact LeO.none _
   | refine LeO.ite ?_ ?_
   | refine LeO.bind ?_ (fun _ => ?_)
set_option maxHeartbeats 8000000 in
set_option maxRecDepth 100000 in
theorem semver_Parse.calls (k : Nat) (A0 : Option Addr) (c0 : Nat) (l0 : List Int) (a1 : Int) (r1 : Int) (r2 : Int) (r3 : Int) (r4 : List ByteArray) (r5 : List ByteArray) (r6 : Int) (r7 : Int) (w : World) (hr0 : Kd.C (Kd.int .u8) w A0 l0.length l0) (hc0 : l0.length ≤ c0) (h : semver_Parse.f k l0 a1 = some (r1, r2, r3, r4, r5, r6, r7)) :
  Calls Tryd.prog 33 #[.slice A0 l0.length c0, .int .i64 a1] w fun e w' => ∃ v3_ v4_ : Value, e = .returned (.tuple #[.agg #[.int .u64 r1, .int .u64 r2, .int .u64 r3, v3_, v4_], .int .i64 r6, .int .i64 r7]) ∧ Kd.R Kd.string 9 w' w.heap.size (fun k_ => some k_ ≠ (v4_ : Value).ownBlock) v3_ r4 ∧ Kd.R Kd.string 9 w' w.heap.size (fun k_ => some k_ ≠ (v3_ : Value).ownBlock) v4_ r5 ∧ Below w.heap.size w w' := by
 have hu40 := Tryd.underlying40
 have hu67 := Tryd.underlying67
 have HR0 := Aside0.mk hr0
 have HC0 := Aside0.mk hc0
 clear hr0 hc0
 have HB := Aside0.mk (Below.refl w.heap.size w)
 have H : (if a1 < 0 then (semver_Parse.j0 k l0 a1 true 0 0 0) else (semver_Parse.j0 k l0 a1 (decide (a1 > (l0.length : Int))) 0 0 0)) = some (r1, r2, r3, r4, r5, r6, r7) := h
 clear h
 have HC3 := Aside0.mk H
 clear H
 go_enter Tryd.func33, Tryd.ntmps33
 go_upto_region 1 with (first | ((with_reducible refine gate_dst (N := 4) rfl ?_); (try (refine gate_guard (by rfl) ?_; dsimp only)); refine box_event ?hg (N := 4) ?hd (cs := #[.int .u64 0, .int .u64 0, .int .u64 0, .slice none 0 0, .slice none 0 0]) (t := 40) ?hr ?_; (case hd => rfl); (case hg => rfl); (case hr => first | (go_simp; done) | (go_simp; rfl)); intro gb101 hg w4 hbox hb; have BK101 := Aside0.mk hbox; have GW101 := Aside0.mk ((by rw [hg]; exact (below_size bB) : w.heap.size ≤ gb101)); have GE101 := Aside0.mk ((by rw [hg]; exact (below_size bB) : w.heap.size ≤ gb101)); replace HB := aB HB hb; clear hb hbox hg) | ((with_reducible refine Lab.wp_scope_lab (Lab.scopeOf Tryd.f33) ?sc k ?_); (case sc => kernel_rfl)))
 (try simp only [Act.put, List.setIfInBounds_toArray, List.set_cons_zero, List.set_cons_succ])
 go_cut [20] (fun v20 wc => ∃ (kq : Nat) (x20_2 : Bool), v20 = .bool x20_2 ∧ Aside0 (semver_Parse.j0 kq l0 a1 x20_2 0 0 0 = some (r1, r2, r3, r4, r5, r6, r7)) ∧ Aside0 (kq ≤ k) ∧ Aside0 (wc.heap[gb101]? = some (.cells #[.int .u64 0, .int .u64 0, .int .u64 0, (.slice none 0 0), (.slice none 0 0)] 40 (0, 0))) ∧ Aside0 (Below w.heap.size w wc))
 case first =>
  have H := HC3.out
  clear HC3
  by_cases c5 : a1 < 0
  ·rw [if_pos c5] at H
   have c5b0 : decide (a1 < 0) = true := decide_eq_true c5
   clear c5
   (first | rw [c5b0] | (simp only [i64_w, i32_w]; rw [c5b0]) | skip)
   have H' := Aside0.mk H
   clear H
   go_wp2
   go_meet
   case rel => exact ⟨_, (true), bS, H', ⟨by first | omega | exact Nat.le_refl _⟩, ⟨aKw BK101⟩, ⟨bB⟩⟩
  ·rw [if_neg c5] at H
   have c5b0 : decide (a1 < 0) = false := decide_eq_false c5
   clear c5
   (first | rw [c5b0] | (simp only [i64_w, i32_w]; rw [c5b0]) | skip)
   have H' := Aside0.mk H
   clear H
   go_wp2
   go_meet
   case rel => exact ⟨_, (decide (a1 > (l0.length : Int))), bS, H', ⟨by first | omega | exact Nat.le_refl _⟩, ⟨aKw BK101⟩, ⟨bB⟩⟩
 case rest =>
  clear HC3
  try clear p2
  try clear c3
  try clear c5
  try clear c5b0
  obtain ⟨kq, x20_2, rfl, HA, HJ2, BK101, HB⟩ := hcut
  cases kq with
  | zero => exact absurd HA.out (by simp [semver_Parse.j0])
  | succ kj2 =>
   have H := HA.out
   clear HA
   simp only [semver_Parse.j0] at H
   by_cases c6 : x20_2 = true
   ·subst c6
    have H1 : (some (0, 0, 0, ([] : List ByteArray), ([] : List ByteArray), 0, 1)) = some (r1, r2, r3, r4, r5, r6, r7) := by rw [if_pos rfl] at H; exact H
    clear H
    have H := H1
    clear H1
    simp only [Option.some.injEq, Prod.mk.injEq] at H
    obtain ⟨rfl, rfl, rfl, rfl, rfl, rfl, rfl⟩ := H
    have hcz7_0 : wc.cell? ⟨gb101, 0, none⟩ = some (.int .u64 0) := (blk_cell BK101.out 0).trans rfl
    have hcz7_1 : wc.cell? ⟨gb101, 1, none⟩ = some (.int .u64 0) := (blk_cell BK101.out 1).trans rfl
    have hcz7_2 : wc.cell? ⟨gb101, 2, none⟩ = some (.int .u64 0) := (blk_cell BK101.out 2).trans rfl
    have hcz7_3 : wc.cell? ⟨gb101, 3, none⟩ = some (.slice none 0 0) := (blk_cell BK101.out 3).trans rfl
    have hcz7_4 : wc.cell? ⟨gb101, 4, none⟩ = some (.slice none 0 0) := (blk_cell BK101.out 4).trans rfl
    have hfz7_0 := blk_frozen BK101.out 0
    have hfz7_1 := blk_frozen BK101.out 1
    have hfz7_2 := blk_frozen BK101.out 2
    have hfz7_3 := blk_frozen BK101.out 3
    have hfz7_4 := blk_frozen BK101.out 4
    go_wp2
    (try simp only [Exit.then, Exit.inBlock, Lab.gotos])
    refine bodyPost_ret (results_ctt rfl _ _ gb101 40 #[.int .u64 0, .int .u64 0, .int .u64 0, .slice none 0 0, .slice none 0 0] (0, 0) _ rfl (by (with_reducible repeat (first | refine blk_drewN ?_ _ | refine blk_drew ?_ | refine blk_alloc ?_ _)); refine blk_put (cs := #[.int .u64 0, .int .u64 0, .int .u64 0, .slice none 0 0, .slice none 0 0]) ?_ 4 _ rfl; (with_reducible repeat (first | refine blk_drewN ?_ _ | refine blk_drew ?_ | refine blk_alloc ?_ _)); refine blk_put (cs := #[.int .u64 0, .int .u64 0, .int .u64 0, .slice none 0 0, .slice none 0 0]) ?_ 3 _ rfl; (with_reducible repeat (first | refine blk_drewN ?_ _ | refine blk_drew ?_ | refine blk_alloc ?_ _)); refine blk_put (cs := #[.int .u64 0, .int .u64 0, .int .u64 0, .slice none 0 0, .slice none 0 0]) ?_ 2 _ rfl; (with_reducible repeat (first | refine blk_drewN ?_ _ | refine blk_drew ?_ | refine blk_alloc ?_ _)); refine blk_put (cs := #[.int .u64 0, .int .u64 0, .int .u64 0, .slice none 0 0, .slice none 0 0]) ?_ 1 _ rfl; (with_reducible repeat (first | refine blk_drewN ?_ _ | refine blk_drew ?_ | refine blk_alloc ?_ _)); refine blk_put (cs := #[.int .u64 0, .int .u64 0, .int .u64 0, .slice none 0 0, .slice none 0 0]) ?_ 0 _ rfl; (with_reducible repeat (first | refine blk_drewN ?_ _ | refine blk_drew ?_ | refine blk_alloc ?_ _)); exact BK101.out) Tryd.underlying40 rfl (by kernel_rfl)) rfl ?_
    exact ⟨_, _, by first | rfl | (simp [errW_none, errW_some] <;> rfl) | (simp [*, errW_none, errW_some] <;> rfl), by first | exact Kd.R_nil _ _ _ _ _ | exact Kd.N_nil _ _ _ _ _ | exact Kd.V_nil _ _ _ _ _ | exact Kd.Q_nil _ _ _ _ _ | exact Kd.S_nil _ _ _ _ _, by first | exact Kd.R_nil _ _ _ _ _ | exact Kd.N_nil _ _ _ _ _ | exact Kd.V_nil _ _ _ _ _ | exact Kd.Q_nil _ _ _ _ _ | exact Kd.S_nil _ _ _ _ _, bB⟩
   ·replace c6 := Bool.eq_false_iff.mpr c6
    subst c6
    have H1 : (semver_Parse.l0 kj2 l0 a1 0 0 0 0 0 0 0) = some (r1, r2, r3, r4, r5, r6, r7) := by rw [if_neg (show ¬ (false = true) by decide)] at H; exact H
    clear H
    have H := H1
    clear H1
    have H' := Aside0.mk H
    clear H
    go_wp2_with (first | ((with_reducible refine gate_dst (N := 7) rfl ?_); (try (refine gate_guard (by rfl) ?_; dsimp only)); refine box_event ?hg (N := 7) ?hd (cs := #[.int .u64 0, .int .u64 0, .int .u64 0]) (t := 67) ?hr ?_; (case hd => rfl); (case hg => rfl); (case hr => first | (go_simp; done) | (go_simp; rfl)); intro gb102 hg w8 hbox hb; have BK102 := Aside0.mk hbox; have GW102 := Aside0.mk ((by rw [hg]; exact (below_size bB) : w.heap.size ≤ gb102)); have GE102 := Aside0.mk ((by rw [hg]; exact (below_size bB) : w.heap.size ≤ gb102)); replace HB := aB HB hb; have NB101_102 := Aside0.mk ((by rw [hg]; exact Nat.ne_of_lt (blk_lt (g := gb101) (o := .cells #[.int .u64 0, .int .u64 0, .int .u64 0, .slice none 0 0, .slice none 0 0] 40 (0, 0)) (aKw BK101)) : gb101 ≠ gb102)); have NB102_101 := Aside0.mk ((by rw [hg]; exact Nat.ne_of_gt (blk_lt (g := gb101) (o := .cells #[.int .u64 0, .int .u64 0, .int .u64 0, .slice none 0 0, .slice none 0 0] 40 (0, 0)) (aKw BK101)) : gb102 ≠ gb101)); replace BK101 := aK BK101 hb; clear hb hbox hg))
    go_step3
    go_step
    (try go_step)
    refine Lab.wp_at_label (l := 0) (fun a0_ kq a_ w_ => ∃ u1 u8 : Value, ((fun kq v1 v8 w' => ∃ (x1_2 : Int) (x8_2 : Int) (x102000_2 : Int) (x102001_2 : Int) (x102002_2 : Int) (x103000_2 : Int) (x103001_2 : Int) (x103002_2 : Int), v1 = .int .i64 x1_2 ∧ v8 = .int .i64 x8_2 ∧ Aside0 (semver_Parse.l0 kq l0 x1_2 x8_2 x102000_2 x102001_2 x102002_2 x103000_2 x103001_2 x103002_2 = some (r1, r2, r3, r4, r5, r6, r7)) ∧ Aside0 (kq ≤ kj2) ∧ Aside0 (w'.heap[gb101]? = some (.cells #[.int .u64 x102000_2, .int .u64 x102001_2, .int .u64 x102002_2, (.slice none 0 0), (.slice none 0 0)] 40 (0, 0))) ∧ Aside0 (w'.heap[gb102]? = some (.cells #[.int .u64 x103000_2, .int .u64 x103001_2, .int .u64 x103002_2] 67 (0, 0))) ∧ Aside0 (Below w.heap.size w w')) kq u1 u8 w_) ∧ a_ = (((((((((((((((((((((((((((((((((((((((((((((((((((((((((((((((((((((((((((((((((((((((((((((((((((((((((((a0_.put (some 1) u1).put (some 5) (Lab.tmp a_ 5)).put (some 6) (Lab.tmp a_ 6)).put (some 8) u8).put (some 9) (Lab.tmp a_ 9)).put (some 10) (Lab.tmp a_ 10)).put (some 11) (Lab.tmp a_ 11)).put (some 12) (Lab.tmp a_ 12)).put (some 13) (Lab.tmp a_ 13)).put (some 14) (Lab.tmp a_ 14)).put (some 15) (Lab.tmp a_ 15)).put (some 16) (Lab.tmp a_ 16)).put (some 17) (Lab.tmp a_ 17)).put (some 18) (Lab.tmp a_ 18)).put (some 19) (Lab.tmp a_ 19)).put (some 20) (Lab.tmp a_ 20)).put (some 21) (Lab.tmp a_ 21)).put (some 22) (Lab.tmp a_ 22)).put (some 23) (Lab.tmp a_ 23)).put (some 24) (Lab.tmp a_ 24)).put (some 25) (Lab.tmp a_ 25)).put (some 26) (Lab.tmp a_ 26)).put (some 27) (Lab.tmp a_ 27)).put (some 28) (Lab.tmp a_ 28)).put (some 29) (Lab.tmp a_ 29)).put (some 30) (Lab.tmp a_ 30)).put (some 31) (Lab.tmp a_ 31)).put (some 32) (Lab.tmp a_ 32)).put (some 33) (Lab.tmp a_ 33)).put (some 34) (Lab.tmp a_ 34)).put (some 35) (Lab.tmp a_ 35)).put (some 36) (Lab.tmp a_ 36)).put (some 37) (Lab.tmp a_ 37)).put (some 38) (Lab.tmp a_ 38)).put (some 39) (Lab.tmp a_ 39)).put (some 40) (Lab.tmp a_ 40)).put (some 41) (Lab.tmp a_ 41)).put (some 42) (Lab.tmp a_ 42)).put (some 43) (Lab.tmp a_ 43)).put (some 44) (Lab.tmp a_ 44)).put (some 45) (Lab.tmp a_ 45)).put (some 46) (Lab.tmp a_ 46)).put (some 47) (Lab.tmp a_ 47)).put (some 48) (Lab.tmp a_ 48)).put (some 49) (Lab.tmp a_ 49)).put (some 50) (Lab.tmp a_ 50)).put (some 51) (Lab.tmp a_ 51)).put (some 52) (Lab.tmp a_ 52)).put (some 53) (Lab.tmp a_ 53)).put (some 54) (Lab.tmp a_ 54)).put (some 55) (Lab.tmp a_ 55)).put (some 56) (Lab.tmp a_ 56)).put (some 57) (Lab.tmp a_ 57)).put (some 58) (Lab.tmp a_ 58)).put (some 59) (Lab.tmp a_ 59)).put (some 60) (Lab.tmp a_ 60)).put (some 61) (Lab.tmp a_ 61)).put (some 62) (Lab.tmp a_ 62)).put (some 63) (Lab.tmp a_ 63)).put (some 64) (Lab.tmp a_ 64)).put (some 65) (Lab.tmp a_ 65)).put (some 66) (Lab.tmp a_ 66)).put (some 67) (Lab.tmp a_ 67)).put (some 68) (Lab.tmp a_ 68)).put (some 69) (Lab.tmp a_ 69)).put (some 70) (Lab.tmp a_ 70)).put (some 71) (Lab.tmp a_ 71)).put (some 72) (Lab.tmp a_ 72)).put (some 73) (Lab.tmp a_ 73)).put (some 74) (Lab.tmp a_ 74)).put (some 75) (Lab.tmp a_ 75)).put (some 76) (Lab.tmp a_ 76)).put (some 77) (Lab.tmp a_ 77)).put (some 78) (Lab.tmp a_ 78)).put (some 79) (Lab.tmp a_ 79)).put (some 80) (Lab.tmp a_ 80)).put (some 81) (Lab.tmp a_ 81)).put (some 82) (Lab.tmp a_ 82)).put (some 83) (Lab.tmp a_ 83)).put (some 84) (Lab.tmp a_ 84)).put (some 85) (Lab.tmp a_ 85)).put (some 86) (Lab.tmp a_ 86)).put (some 87) (Lab.tmp a_ 87)).put (some 88) (Lab.tmp a_ 88)).put (some 89) (Lab.tmp a_ 89)).put (some 90) (Lab.tmp a_ 90)).put (some 91) (Lab.tmp a_ 91)).put (some 92) (Lab.tmp a_ 92)).put (some 93) (Lab.tmp a_ 93)).put (some 94) (Lab.tmp a_ 94)).put (some 95) (Lab.tmp a_ 95)).put (some 96) (Lab.tmp a_ 96)).put (some 97) (Lab.tmp a_ 97)).put (some 98) (Lab.tmp a_ 98)).put (some 99) (Lab.tmp a_ 99)).put (some 100) (Lab.tmp a_ 100)).put (some 101) (Lab.tmp a_ 101)).put (some 102) (Lab.tmp a_ 102)).put (some 103) (Lab.tmp a_ 103)).put (some 104) (Lab.tmp a_ 104)).put (some 105) (Lab.tmp a_ 105)).put (some 106) (Lab.tmp a_ 106)).put (some 107) (Lab.tmp a_ 107)).put (some 108) (Lab.tmp a_ 108)).put (some 109) (Lab.tmp a_ 109)).put (some 110) (Lab.tmp a_ 110)).put (some 111) (Lab.tmp a_ 111))) kj2 ?fl (by have := HJ2.out; first | omega | exact Nat.le_refl _) ?atStart ?round
    case fl => kernel_rfl
    case atStart =>
     (repeat apply Exists.intro)
     refine ⟨?rel, ?fr⟩
     case fr => (simp only [Act.put, List.setIfInBounds_toArray, List.set_cons_zero, List.set_cons_succ] <;> rfl)
     case rel => exact ⟨(a1), (0), (0), (0), (0), (0), (0), (0), bS, bS, H', ⟨Nat.le_refl _⟩, ⟨aKw BK101⟩, ⟨aKw BK102⟩, ⟨bB⟩⟩
    case round =>
     intro gk a_ wr hle_ hinv HIH_0
     clear hle_
     obtain ⟨u1, u8, hrel, hfr_⟩ := hinv
     generalize hU_ : Lab.tmp a_ = U_ at hfr_
     clear hU_
     subst hfr_
     (try dsimp only at hrel)
     simp only [Act.put, List.setIfInBounds_toArray, List.set_cons_zero, List.set_cons_succ]
     clear H'
     try clear p2
     try clear c3
     try clear p3
     try clear c5
     try clear c5b0
     try clear c6
     try clear p6
     try clear hcz7_0
     try clear hcz7_1
     try clear hcz7_2
     try clear hcz7_3
     try clear hcz7_4
     try clear hfz7_0
     try clear hfz7_1
     try clear hfz7_2
     try clear hfz7_3
     try clear hfz7_4
     try clear p2
     obtain ⟨x1_2, x8_2, x102000_2, x102001_2, x102002_2, x103000_2, x103001_2, x103002_2, rfl, rfl, HA, HK2, BK101, BK102, HB⟩ := hrel
     cases gk with
     | zero => exact absurd HA.out (by simp [semver_Parse.l0])
     | succ k2 =>
      have H := HA.out
      clear HA
      simp only [semver_Parse.l0] at H
      replace H := Option.bind_eq_some_iff.mp H
      obtain ⟨⟨t103, t104, t105⟩, A90, H⟩ := H
      replace H : (if t105 = 0 then (if x8_2 < 2 then (semver_Parse.j2 k2 l0 x1_2 x8_2 t103 t104 ((wrap64 (x1_2 + t104)) == (l0.length : Int)) x102000_2 x102001_2 x102002_2 x103000_2 x103001_2 x103002_2) else (semver_Parse.j2 k2 l0 x1_2 x8_2 t103 t104 false x102000_2 x102001_2 x102002_2 x103000_2 x103001_2 x103002_2)) else (some (x102000_2, x102001_2, x102002_2, ([] : List ByteArray), ([] : List ByteArray), x1_2, t105))) = some (r1, r2, r3, r4, r5, r6, r7) := H
      have A9 := Aside0.mk A90
      clear A90
      have HC10 := Aside0.mk H
      clear H
      go_upto_block 0 with (first | ((with_reducible refine gate_callee (f := 59) rfl ?_); refine goesL_ (some 25) rfl rfl Tryd.func59 (by kernel_rfl) rfl #[.slice A0 l0.length c0, .int .i64 x1_2] rfl bM ?_; (with_reducible refine (num_Parse.calls k2 _ _ l0 x1_2 t103 t104 t105 _ ?side1 ?side2 A9.out).mono ?_); (case side1 => exact sW (Kd.C_below HR0.out HB.out)); (case side2 => exact HC0.out); rintro e w' ⟨rfl, ⟨nd, rfl⟩⟩; refine ⟨_, rfl, ?_⟩))
      (try simp only [Act.put, List.setIfInBounds_toArray, List.set_cons_zero, List.set_cons_succ])
      go_cut [] (fun wc => ∃ (kq : Nat) (x102000_9 : Int) (x102001_9 : Int) (x102002_9 : Int), Aside0 (semver_Parse.j3 kq l0 x1_2 x8_2 t103 t104 x102000_9 x102001_9 x102002_9 x103000_2 x103001_2 x103002_2 = some (r1, r2, r3, r4, r5, r6, r7)) ∧ Aside0 (kq ≤ k2) ∧ Aside0 (wc.heap[gb101]? = some (.cells #[.int .u64 x102000_9, .int .u64 x102001_9, .int .u64 x102002_9, (.slice none 0 0), (.slice none 0 0)] 40 (0, 0))) ∧ Aside0 (wc.heap[gb102]? = some (.cells #[.int .u64 x103000_2, .int .u64 x103001_2, .int .u64 x103002_2] 67 (0, 0))) ∧ Aside0 (Below w.heap.size w wc))
      case first =>
       have H := HC10.out
       clear HC10
       by_cases c11 : t105 = 0
       ·rw [if_pos c11] at H
        have c11b0 : (t105 == 0) = true := beq_iff_eq.mpr c11
        have c11b1 : (t105 != 0) = false := bne_eq_false_iff_eq.mpr c11
        clear c11
        (first | rw [c11b0] | (simp only [i64_w, i32_w]; rw [c11b0]) | skip)
        have HC12 := Aside0.mk H
        clear H
        go_upto_region 8 with (fail)
        go_cut [35] (fun v35 wc => ∃ (kq : Nat) (x35_11 : Bool), v35 = .bool x35_11 ∧ Aside0 (semver_Parse.j2 kq l0 x1_2 x8_2 t103 t104 x35_11 x102000_2 x102001_2 x102002_2 x103000_2 x103001_2 x103002_2 = some (r1, r2, r3, r4, r5, r6, r7)) ∧ Aside0 (kq ≤ k2) ∧ Aside0 (wc.heap[gb101]? = some (.cells #[.int .u64 x102000_2, .int .u64 x102001_2, .int .u64 x102002_2, (.slice none 0 0), (.slice none 0 0)] 40 (0, 0))) ∧ Aside0 (wc.heap[gb102]? = some (.cells #[.int .u64 x103000_2, .int .u64 x103001_2, .int .u64 x103002_2] 67 (0, 0))) ∧ Aside0 (Below w.heap.size w wc))
        case first =>
         have H := HC12.out
         clear HC12
         by_cases c13 : x8_2 < 2
         ·rw [if_pos c13] at H
          have c13b0 : decide (x8_2 < 2) = true := decide_eq_true c13
          clear c13
          (first | rw [c13b0] | (simp only [i64_w, i32_w]; rw [c13b0]) | skip)
          have H' := Aside0.mk H
          clear H
          go_wp2
          go_meet
          case rel => exact ⟨_, (((wrap64 (x1_2 + t104)) == (l0.length : Int))), bS, H', ⟨by have := HJ2.out; have := HK2.out; first | omega | exact Nat.le_refl _⟩, ⟨aKw BK101⟩, ⟨aKw BK102⟩, ⟨bB⟩⟩
         ·rw [if_neg c13] at H
          have c13b0 : decide (x8_2 < 2) = false := decide_eq_false c13
          clear c13
          (first | rw [c13b0] | (simp only [i64_w, i32_w]; rw [c13b0]) | skip)
          have H' := Aside0.mk H
          clear H
          go_wp2
          go_meet
          case rel => exact ⟨_, (false), bS, H', ⟨by have := HJ2.out; have := HK2.out; first | omega | exact Nat.le_refl _⟩, ⟨aKw BK101⟩, ⟨aKw BK102⟩, ⟨bB⟩⟩
        case rest =>
         clear HC12
         try clear c1
         try clear p2
         try clear c3
         try clear p3
         try clear c5
         try clear c5b0
         try clear c6
         try clear p6
         try clear c11
         try clear c11b0
         try clear c11b1
         try clear c13
         try clear c13b0
         try clear hcz7_0
         try clear hcz7_1
         try clear hcz7_2
         try clear hcz7_3
         try clear hcz7_4
         try clear hfz7_0
         try clear hfz7_1
         try clear hfz7_2
         try clear hfz7_3
         try clear hfz7_4
         try clear p2
         try clear p3
         try clear p6
         obtain ⟨kq, x35_11, rfl, HA, HJ11, BK101, BK102, HB⟩ := hcut
         cases kq with
         | zero => exact absurd HA.out (by simp [semver_Parse.j2])
         | succ kj11 =>
          have H := HA.out
          clear HA
          simp only [semver_Parse.j2] at H
          by_cases c14 : x35_11 = true
          ·subst c14
           have H1 : (some (x102000_2, x102001_2, x102002_2, ([] : List ByteArray), ([] : List ByteArray), wrap64 (x1_2 + t104), 2)) = some (r1, r2, r3, r4, r5, r6, r7) := by rw [if_pos rfl] at H; exact H
           clear H
           have H := H1
           clear H1
           simp only [Option.some.injEq, Prod.mk.injEq] at H
           obtain ⟨rfl, rfl, rfl, rfl, rfl, rfl, rfl⟩ := H
           have hnb15 := NB101_102.out
           have hnc15 := NB102_101.out
           have hcz16_0 : wc.cell? ⟨gb101, 0, none⟩ = some (.int .u64 x102000_2) := (blk_cell BK101.out 0).trans rfl
           have hcz16_1 : wc.cell? ⟨gb101, 1, none⟩ = some (.int .u64 x102001_2) := (blk_cell BK101.out 1).trans rfl
           have hcz16_2 : wc.cell? ⟨gb101, 2, none⟩ = some (.int .u64 x102002_2) := (blk_cell BK101.out 2).trans rfl
           have hcz16_3 : wc.cell? ⟨gb101, 3, none⟩ = some (.slice none 0 0) := (blk_cell BK101.out 3).trans rfl
           have hcz16_4 : wc.cell? ⟨gb101, 4, none⟩ = some (.slice none 0 0) := (blk_cell BK101.out 4).trans rfl
           have hfz16_0 := blk_frozen BK101.out 0
           have hfz16_1 := blk_frozen BK101.out 1
           have hfz16_2 := blk_frozen BK101.out 2
           have hfz16_3 := blk_frozen BK101.out 3
           have hfz16_4 := blk_frozen BK101.out 4
           go_wp2
           (try simp only [Exit.then, Exit.inBlock, Lab.gotos])
           refine bodyPost_ret (results_ctt rfl _ _ gb101 40 #[.int .u64 x102000_2, .int .u64 x102001_2, .int .u64 x102002_2, .slice none 0 0, .slice none 0 0] (0, 0) _ rfl (by (with_reducible repeat (first | refine blk_drewN ?_ _ | refine blk_drew ?_ | refine blk_alloc ?_ _)); refine blk_put (cs := #[.int .u64 x102000_2, .int .u64 x102001_2, .int .u64 x102002_2, .slice none 0 0, .slice none 0 0]) ?_ 4 _ rfl; (with_reducible repeat (first | refine blk_drewN ?_ _ | refine blk_drew ?_ | refine blk_alloc ?_ _)); refine blk_put (cs := #[.int .u64 x102000_2, .int .u64 x102001_2, .int .u64 x102002_2, .slice none 0 0, .slice none 0 0]) ?_ 3 _ rfl; (with_reducible repeat (first | refine blk_drewN ?_ _ | refine blk_drew ?_ | refine blk_alloc ?_ _)); refine blk_put (cs := #[.int .u64 x102000_2, .int .u64 x102001_2, .int .u64 x102002_2, .slice none 0 0, .slice none 0 0]) ?_ 2 _ rfl; (with_reducible repeat (first | refine blk_drewN ?_ _ | refine blk_drew ?_ | refine blk_alloc ?_ _)); refine blk_put (cs := #[.int .u64 x102000_2, .int .u64 x102001_2, .int .u64 x102002_2, .slice none 0 0, .slice none 0 0]) ?_ 1 _ rfl; (with_reducible repeat (first | refine blk_drewN ?_ _ | refine blk_drew ?_ | refine blk_alloc ?_ _)); refine blk_put (cs := #[.int .u64 x102000_2, .int .u64 x102001_2, .int .u64 x102002_2, .slice none 0 0, .slice none 0 0]) ?_ 0 _ rfl; (with_reducible repeat (first | refine blk_drewN ?_ _ | refine blk_drew ?_ | refine blk_alloc ?_ _)); exact BK101.out) Tryd.underlying40 rfl (by kernel_rfl)) rfl ?_
           exact ⟨_, _, by first | rfl | (simp [errW_none, errW_some] <;> rfl) | (simp [*, errW_none, errW_some] <;> rfl), by first | exact Kd.R_nil _ _ _ _ _ | exact Kd.N_nil _ _ _ _ _ | exact Kd.V_nil _ _ _ _ _ | exact Kd.Q_nil _ _ _ _ _ | exact Kd.S_nil _ _ _ _ _, by first | exact Kd.R_nil _ _ _ _ _ | exact Kd.N_nil _ _ _ _ _ | exact Kd.V_nil _ _ _ _ _ | exact Kd.Q_nil _ _ _ _ _ | exact Kd.S_nil _ _ _ _ _, bB⟩
          ·replace c14 := Bool.eq_false_iff.mpr c14
           subst c14
           have H1 : (if x8_2 < 2 then (if 0 ≤ (wrap64 (x1_2 + t104)) then (if (wrap64 (x1_2 + t104)) < (l0.length : Int) then (if (rd l0 (wrap64 (x1_2 + t104))) = 46 then (semver_Parse.j3 kj11 l0 x1_2 x8_2 t103 t104 x102000_2 x102001_2 x102002_2 x103000_2 x103001_2 x103002_2) else (some (x102000_2, x102001_2, x102002_2, ([] : List ByteArray), ([] : List ByteArray), wrap64 (x1_2 + t104), 3))) else (none)) else (none)) else (semver_Parse.j3 kj11 l0 x1_2 x8_2 t103 t104 x102000_2 x102001_2 x102002_2 x103000_2 x103001_2 x103002_2)) = some (r1, r2, r3, r4, r5, r6, r7) := by rw [if_neg (show ¬ (false = true) by decide)] at H; exact H
           clear H
           have H := H1
           clear H1
           by_cases c17 : x8_2 < 2
           ·rw [if_pos c17] at H
            have c17b0 : decide (x8_2 < 2) = true := decide_eq_true c17
            clear c17
            obtain ⟨ji18, hji18⟩ : ∃ j_ : Int, (wrap64 (x1_2 + t104)) = j_ := ⟨_, rfl⟩
            replace H : (if 0 ≤ (ji18) then (if (ji18) < (l0.length : Int) then (if (rd l0 (ji18)) = 46 then (semver_Parse.j3 kj11 l0 x1_2 x8_2 t103 t104 x102000_2 x102001_2 x102002_2 x103000_2 x103001_2 x103002_2) else (some (x102000_2, x102001_2, x102002_2, ([] : List ByteArray), ([] : List ByteArray), ji18, 3))) else (none)) else (none)) = some (r1, r2, r3, r4, r5, r6, r7) := by first | (rw [hji18] at H; exact H) | (simp only [hji18] at H ⊢; exact H)
            have hji18w : (IntKind.i64.wrap (x1_2 + t104)) = ji18 := (i64_w _).trans hji18
            by_cases c19 : 0 ≤ (ji18)
            ·rw [if_pos c19] at H
             have c19b0 : decide (0 ≤ (ji18)) = true := decide_eq_true c19
             clear c19
             by_cases c20 : (ji18) < (l0.length : Int)
             ·rw [if_pos c20] at H
              have c20b0 : decide ((ji18) < (l0.length : Int)) = true := decide_eq_true c20
              clear c20
              by_cases c21 : (rd l0 (ji18)) = 46
              ·rw [if_pos c21] at H
               have c21b0 : ((rd l0 (ji18)) == 46) = true := beq_iff_eq.mpr c21
               have c21b1 : ((rd l0 (ji18)) != 46) = false := bne_eq_false_iff_eq.mpr c21
               clear c21
               have H' := Aside0.mk H
               clear H
               have p106 : 0 ≤ ((ji18) : Int) := oD
               have q106 : (ji18) < (l0.length : Int) := oD
               obtain ⟨ad106, e106, hx106_0⟩ := Kd.at_int HR0.out (ji18) p106 q106
               cases e106
               replace hx106_0 := (HB.out.cell (World.block_lt_of_cell? w _ hx106_0)).trans hx106_0
               replace p106 := eq_true p106
               replace q106 := eq_true q106
               go_wp2
               go_meet
               case rel => exact ⟨_, (x102000_2), (x102001_2), (x102002_2), H', ⟨by have := HJ2.out; have := HK2.out; have := HJ11.out; first | omega | exact Nat.le_refl _⟩, ⟨aKw BK101⟩, ⟨aKw BK102⟩, ⟨bB⟩⟩
              ·rw [if_neg c21] at H
               have c21b0 : ((rd l0 (ji18)) == 46) = false := beq_eq_false_iff_ne.mpr c21
               have c21b1 : ((rd l0 (ji18)) != 46) = true := bne_iff_ne.mpr c21
               simp only [Option.some.injEq, Prod.mk.injEq] at H
               obtain ⟨rfl, rfl, rfl, rfl, rfl, rfl, rfl⟩ := H
               have p106 : 0 ≤ ((ji18) : Int) := oD
               have q106 : (ji18) < (l0.length : Int) := oD
               obtain ⟨ad106, e106, hx106_0⟩ := Kd.at_int HR0.out (ji18) p106 q106
               cases e106
               replace hx106_0 := (HB.out.cell (World.block_lt_of_cell? w _ hx106_0)).trans hx106_0
               replace p106 := eq_true p106
               replace q106 := eq_true q106
               have hnb22 := NB101_102.out
               have hnc22 := NB102_101.out
               have hcz23_0 : wc.cell? ⟨gb101, 0, none⟩ = some (.int .u64 x102000_2) := (blk_cell BK101.out 0).trans rfl
               have hcz23_1 : wc.cell? ⟨gb101, 1, none⟩ = some (.int .u64 x102001_2) := (blk_cell BK101.out 1).trans rfl
               have hcz23_2 : wc.cell? ⟨gb101, 2, none⟩ = some (.int .u64 x102002_2) := (blk_cell BK101.out 2).trans rfl
               have hcz23_3 : wc.cell? ⟨gb101, 3, none⟩ = some (.slice none 0 0) := (blk_cell BK101.out 3).trans rfl
               have hcz23_4 : wc.cell? ⟨gb101, 4, none⟩ = some (.slice none 0 0) := (blk_cell BK101.out 4).trans rfl
               have hfz23_0 := blk_frozen BK101.out 0
               have hfz23_1 := blk_frozen BK101.out 1
               have hfz23_2 := blk_frozen BK101.out 2
               have hfz23_3 := blk_frozen BK101.out 3
               have hfz23_4 := blk_frozen BK101.out 4
               go_wp2
               (try simp only [Exit.then, Exit.inBlock, Lab.gotos])
               refine bodyPost_ret (results_ctt rfl _ _ gb101 40 #[.int .u64 x102000_2, .int .u64 x102001_2, .int .u64 x102002_2, .slice none 0 0, .slice none 0 0] (0, 0) _ rfl (by (with_reducible repeat (first | refine blk_drewN ?_ _ | refine blk_drew ?_ | refine blk_alloc ?_ _)); refine blk_put (cs := #[.int .u64 x102000_2, .int .u64 x102001_2, .int .u64 x102002_2, .slice none 0 0, .slice none 0 0]) ?_ 4 _ rfl; (with_reducible repeat (first | refine blk_drewN ?_ _ | refine blk_drew ?_ | refine blk_alloc ?_ _)); refine blk_put (cs := #[.int .u64 x102000_2, .int .u64 x102001_2, .int .u64 x102002_2, .slice none 0 0, .slice none 0 0]) ?_ 3 _ rfl; (with_reducible repeat (first | refine blk_drewN ?_ _ | refine blk_drew ?_ | refine blk_alloc ?_ _)); refine blk_put (cs := #[.int .u64 x102000_2, .int .u64 x102001_2, .int .u64 x102002_2, .slice none 0 0, .slice none 0 0]) ?_ 2 _ rfl; (with_reducible repeat (first | refine blk_drewN ?_ _ | refine blk_drew ?_ | refine blk_alloc ?_ _)); refine blk_put (cs := #[.int .u64 x102000_2, .int .u64 x102001_2, .int .u64 x102002_2, .slice none 0 0, .slice none 0 0]) ?_ 1 _ rfl; (with_reducible repeat (first | refine blk_drewN ?_ _ | refine blk_drew ?_ | refine blk_alloc ?_ _)); refine blk_put (cs := #[.int .u64 x102000_2, .int .u64 x102001_2, .int .u64 x102002_2, .slice none 0 0, .slice none 0 0]) ?_ 0 _ rfl; (with_reducible repeat (first | refine blk_drewN ?_ _ | refine blk_drew ?_ | refine blk_alloc ?_ _)); exact BK101.out) Tryd.underlying40 rfl (by kernel_rfl)) rfl ?_
               exact ⟨_, _, by first | rfl | (simp [errW_none, errW_some] <;> rfl) | (simp only [← hji18]; first | rfl | (simp [errW_none, errW_some] <;> rfl)) | (simp [*, errW_none, errW_some] <;> rfl), by first | exact Kd.R_nil _ _ _ _ _ | exact Kd.N_nil _ _ _ _ _ | exact Kd.V_nil _ _ _ _ _ | exact Kd.Q_nil _ _ _ _ _ | exact Kd.S_nil _ _ _ _ _, by first | exact Kd.R_nil _ _ _ _ _ | exact Kd.N_nil _ _ _ _ _ | exact Kd.V_nil _ _ _ _ _ | exact Kd.Q_nil _ _ _ _ _ | exact Kd.S_nil _ _ _ _ _, bB⟩
             ·rw [if_neg c20] at H
              exact absurd H (by simp)
            ·rw [if_neg c19] at H
             exact absurd H (by simp)
           ·rw [if_neg c17] at H
            have c17b0 : decide (x8_2 < 2) = false := decide_eq_false c17
            clear c17
            have H' := Aside0.mk H
            clear H
            go_wp2
            go_meet
            case rel => exact ⟨_, (x102000_2), (x102001_2), (x102002_2), H', ⟨by have := HJ2.out; have := HK2.out; have := HJ11.out; first | omega | exact Nat.le_refl _⟩, ⟨aKw BK101⟩, ⟨aKw BK102⟩, ⟨bB⟩⟩
       ·rw [if_neg c11] at H
        have c11b0 : (t105 == 0) = false := beq_eq_false_iff_ne.mpr c11
        have c11b1 : (t105 != 0) = true := bne_iff_ne.mpr c11
        (first | rw [c11b0] | (simp only [i64_w, i32_w]; rw [c11b0]) | skip)
        simp only [Option.some.injEq, Prod.mk.injEq] at H
        obtain ⟨rfl, rfl, rfl, rfl, rfl, rfl, rfl⟩ := H
        have hnb24 := NB101_102.out
        have hnc24 := NB102_101.out
        have hcz25_0 : wr.cell? ⟨gb101, 0, none⟩ = some (.int .u64 x102000_2) := (blk_cell BK101.out 0).trans rfl
        have hcz25_1 : wr.cell? ⟨gb101, 1, none⟩ = some (.int .u64 x102001_2) := (blk_cell BK101.out 1).trans rfl
        have hcz25_2 : wr.cell? ⟨gb101, 2, none⟩ = some (.int .u64 x102002_2) := (blk_cell BK101.out 2).trans rfl
        have hcz25_3 : wr.cell? ⟨gb101, 3, none⟩ = some (.slice none 0 0) := (blk_cell BK101.out 3).trans rfl
        have hcz25_4 : wr.cell? ⟨gb101, 4, none⟩ = some (.slice none 0 0) := (blk_cell BK101.out 4).trans rfl
        have hfz25_0 := blk_frozen BK101.out 0
        have hfz25_1 := blk_frozen BK101.out 1
        have hfz25_2 := blk_frozen BK101.out 2
        have hfz25_3 := blk_frozen BK101.out 3
        have hfz25_4 := blk_frozen BK101.out 4
        go_wp2
        (try simp only [Exit.then, Exit.inBlock, Lab.gotos])
        refine bodyPost_ret (results_ctt rfl _ _ gb101 40 #[.int .u64 x102000_2, .int .u64 x102001_2, .int .u64 x102002_2, .slice none 0 0, .slice none 0 0] (0, 0) _ rfl (by (with_reducible repeat (first | refine blk_drewN ?_ _ | refine blk_drew ?_ | refine blk_alloc ?_ _)); refine blk_put (cs := #[.int .u64 x102000_2, .int .u64 x102001_2, .int .u64 x102002_2, .slice none 0 0, .slice none 0 0]) ?_ 4 _ rfl; (with_reducible repeat (first | refine blk_drewN ?_ _ | refine blk_drew ?_ | refine blk_alloc ?_ _)); refine blk_put (cs := #[.int .u64 x102000_2, .int .u64 x102001_2, .int .u64 x102002_2, .slice none 0 0, .slice none 0 0]) ?_ 3 _ rfl; (with_reducible repeat (first | refine blk_drewN ?_ _ | refine blk_drew ?_ | refine blk_alloc ?_ _)); refine blk_put (cs := #[.int .u64 x102000_2, .int .u64 x102001_2, .int .u64 x102002_2, .slice none 0 0, .slice none 0 0]) ?_ 2 _ rfl; (with_reducible repeat (first | refine blk_drewN ?_ _ | refine blk_drew ?_ | refine blk_alloc ?_ _)); refine blk_put (cs := #[.int .u64 x102000_2, .int .u64 x102001_2, .int .u64 x102002_2, .slice none 0 0, .slice none 0 0]) ?_ 1 _ rfl; (with_reducible repeat (first | refine blk_drewN ?_ _ | refine blk_drew ?_ | refine blk_alloc ?_ _)); refine blk_put (cs := #[.int .u64 x102000_2, .int .u64 x102001_2, .int .u64 x102002_2, .slice none 0 0, .slice none 0 0]) ?_ 0 _ rfl; (with_reducible repeat (first | refine blk_drewN ?_ _ | refine blk_drew ?_ | refine blk_alloc ?_ _)); exact BK101.out) Tryd.underlying40 rfl (by kernel_rfl)) rfl ?_
        exact ⟨_, _, by first | rfl | (simp [errW_none, errW_some] <;> rfl) | (simp [*, errW_none, errW_some] <;> rfl), by first | exact Kd.R_nil _ _ _ _ _ | exact Kd.N_nil _ _ _ _ _ | exact Kd.V_nil _ _ _ _ _ | exact Kd.Q_nil _ _ _ _ _ | exact Kd.S_nil _ _ _ _ _, by first | exact Kd.R_nil _ _ _ _ _ | exact Kd.N_nil _ _ _ _ _ | exact Kd.V_nil _ _ _ _ _ | exact Kd.Q_nil _ _ _ _ _ | exact Kd.S_nil _ _ _ _ _, bB⟩
      case rest =>
       clear HC10
       try clear c1
       try clear p1
       try clear q1
       try clear hx1
       try clear c2
       try clear p2
       try clear c3
       try clear p3
       try clear c5
       try clear c5b0
       try clear c6
       try clear p6
       try clear p10
       try clear q10
       try clear hx10
       try clear c11
       try clear c11b0
       try clear c11b1
       try clear c13
       try clear c13b0
       try clear c14
       try clear c15
       try clear c17
       try clear c17b0
       try clear c19
       try clear c19b0
       try clear c20
       try clear c20b0
       try clear c21
       try clear c21b0
       try clear c21b1
       try clear c22
       try clear c24
       try clear hcz16_0
       try clear hcz16_1
       try clear hcz16_2
       try clear hcz16_3
       try clear hcz16_4
       try clear hcz23_0
       try clear hcz23_1
       try clear hcz23_2
       try clear hcz23_3
       try clear hcz23_4
       try clear hcz25_0
       try clear hcz25_1
       try clear hcz25_2
       try clear hcz25_3
       try clear hcz25_4
       try clear hcz7_0
       try clear hcz7_1
       try clear hcz7_2
       try clear hcz7_3
       try clear hcz7_4
       try clear hfz16_0
       try clear hfz16_1
       try clear hfz16_2
       try clear hfz16_3
       try clear hfz16_4
       try clear hfz23_0
       try clear hfz23_1
       try clear hfz23_2
       try clear hfz23_3
       try clear hfz23_4
       try clear hfz25_0
       try clear hfz25_1
       try clear hfz25_2
       try clear hfz25_3
       try clear hfz25_4
       try clear hfz7_0
       try clear hfz7_1
       try clear hfz7_2
       try clear hfz7_3
       try clear hfz7_4
       try clear hx106_0
       try clear p106
       try clear p2
       try clear p3
       try clear p6
       try clear q106
       obtain ⟨kq, x102000_9, x102001_9, x102002_9, HA, HJ9, BK101, BK102, HB⟩ := hcut
       cases kq with
       | zero => exact absurd HA.out (by simp [semver_Parse.j3])
       | succ kj9 =>
        have H := HA.out
        clear HA
        simp only [semver_Parse.j3] at H
        by_cases c26 : x8_2 = 0
        ·rw [if_pos c26] at H
         have c26b0 : (x8_2 == 0) = true := beq_iff_eq.mpr c26
         have c26b1 : (x8_2 != 0) = false := bne_eq_false_iff_eq.mpr c26
         clear c26
         by_cases c27 : x8_2 < 2
         ·rw [if_pos c27] at H
          have c27b0 : decide (x8_2 < 2) = true := decide_eq_true c27
          clear c27
          have H' := Aside0.mk H
          clear H
          have ix28 : (x8_2 : Int) = 0 := (by first | (with_reducible assumption) | assumption | exact eq_of_beq bA | omega)
          have p28 : (0 ≤ (x8_2 : Int)) = True := eq_true (by omega)
          have q28 : ((x8_2 : Int) < 3) = True := eq_true (by omega)
          have t28 : (x8_2 : Int).toNat = 0 := (by omega)
          clear ix28
          have hnb29 := NB102_101.out
          have hnc29 := NB101_102.out
          have hcz30_0 : wc.cell? ⟨gb102, 0, none⟩ = some (.int .u64 x103000_2) := (blk_cell BK102.out 0).trans rfl
          have hcz30_1 : wc.cell? ⟨gb102, 1, none⟩ = some (.int .u64 x103001_2) := (blk_cell BK102.out 1).trans rfl
          have hcz30_2 : wc.cell? ⟨gb102, 2, none⟩ = some (.int .u64 x103002_2) := (blk_cell BK102.out 2).trans rfl
          have hfz30_0 := blk_frozen BK102.out 0
          have hfz30_1 := blk_frozen BK102.out 1
          have hfz30_2 := blk_frozen BK102.out 2
          go_wp2
          go_step3
          (try simp only [Exit.then, Exit.inBlock, Lab.gotos])
          refine Lab.again HIH_0 kj9 ?lm1 ?lm2 ?lm3
          case lm1 => have := HJ2.out; have := HK2.out; have := HJ9.out; omega
          case lm2 => have := HJ2.out; have := HK2.out; have := HJ9.out; omega
          case lm3 =>
           (repeat apply Exists.intro)
           refine ⟨?rel, ?fr⟩
           case fr => (simp only [Act.put, List.setIfInBounds_toArray, List.set_cons_zero, List.set_cons_succ] <;> rfl)
           case rel => exact ⟨(wrap64 ((wrap64 (x1_2 + t104)) + 1)), (wrap64 (x8_2 + 1)), (x102000_9), (x102001_9), (x102002_9), (t103), (x103001_2), (x103002_2), bS, bS, H', ⟨by have := HJ2.out; have := HK2.out; have := HJ9.out; omega⟩, ⟨aKf BK101⟩, ⟨by (with_reducible repeat (first | refine blk_drewN ?_ _ | refine blk_drew ?_ | refine blk_alloc ?_ _)); refine blk_put (cs := #[.int .u64 x103000_2, .int .u64 x103001_2, .int .u64 x103002_2]) ?_ 0 _ rfl; (with_reducible repeat (first | refine blk_drewN ?_ _ | refine blk_drew ?_ | refine blk_alloc ?_ _)); exact BK102.out⟩, ⟨bB⟩⟩
         ·rw [if_neg c27] at H
          have c27b0 : decide (x8_2 < 2) = false := decide_eq_false c27
          clear c27
          replace H := Option.bind_eq_some_iff.mp H
          obtain ⟨⟨t107, t108, t109⟩, A310, H⟩ := H
          replace H : (if t109 = 0 then ((semver_row.f kj9 l0 t108 43).bind fun bt112 => (if bt112.2.2 = 0 then (some (t103, x103001_2, x103002_2, t107, bt112.1, bt112.2.1, 0)) else (some (x102000_9, x102001_9, x102002_9, ([] : List ByteArray), ([] : List ByteArray), bt112.2.1, bt112.2.2)))) else (some (x102000_9, x102001_9, x102002_9, ([] : List ByteArray), ([] : List ByteArray), t108, t109))) = some (r1, r2, r3, r4, r5, r6, r7) := H
          have A31 := Aside0.mk A310
          clear A310
          by_cases c32 : t109 = 0
          ·rw [if_pos c32] at H
           have c32b0 : (t109 == 0) = true := beq_iff_eq.mpr c32
           have c32b1 : (t109 != 0) = false := bne_eq_false_iff_eq.mpr c32
           clear c32
           replace H := Option.bind_eq_some_iff.mp H
           obtain ⟨⟨t112, t113, t114⟩, A330, H⟩ := H
           replace H : (if t114 = 0 then (some (t103, x103001_2, x103002_2, t107, t112, t113, 0)) else (some (x102000_9, x102001_9, x102002_9, ([] : List ByteArray), ([] : List ByteArray), t113, t114))) = some (r1, r2, r3, r4, r5, r6, r7) := H
           have A33 := Aside0.mk A330
           clear A330
           by_cases c34 : t114 = 0
           ·rw [if_pos c34] at H
            have c34b0 : (t114 == 0) = true := beq_iff_eq.mpr c34
            have c34b1 : (t114 != 0) = false := bne_eq_false_iff_eq.mpr c34
            clear c34
            simp only [Option.some.injEq, Prod.mk.injEq] at H
            obtain ⟨rfl, rfl, rfl, rfl, rfl, rfl, rfl⟩ := H
            have ix35 : (x8_2 : Int) = 0 := (by first | (with_reducible assumption) | assumption | exact eq_of_beq bA | omega)
            have p35 : (0 ≤ (x8_2 : Int)) = True := eq_true (by omega)
            have q35 : ((x8_2 : Int) < 3) = True := eq_true (by omega)
            have t35 : (x8_2 : Int).toNat = 0 := (by omega)
            clear ix35
            have hnb36 := NB102_101.out
            have hnc36 := NB101_102.out
            have hcz37_0 : wc.cell? ⟨gb102, 0, none⟩ = some (.int .u64 x103000_2) := (blk_cell BK102.out 0).trans rfl
            have hcz37_1 : wc.cell? ⟨gb102, 1, none⟩ = some (.int .u64 x103001_2) := (blk_cell BK102.out 1).trans rfl
            have hcz37_2 : wc.cell? ⟨gb102, 2, none⟩ = some (.int .u64 x103002_2) := (blk_cell BK102.out 2).trans rfl
            have hfz37_0 := blk_frozen BK102.out 0
            have hfz37_1 := blk_frozen BK102.out 1
            have hfz37_2 := blk_frozen BK102.out 2
            go_wp2_with (first | ((with_reducible refine gate_callee (f := 60) rfl ?_); refine goesL_ (some 81) rfl rfl Tryd.func60 (by kernel_rfl) rfl #[.slice A0 l0.length c0, .int .i64 (wrap64 (x1_2 + t104)), .int .u8 45] rfl bM ?_; (with_reducible refine (semver_row.calls kj9 _ _ l0 (wrap64 (x1_2 + t104)) 45 t107 t108 t109 _ ?side1 ?side2 A31.out).mono ?_); (case side1 => exact Kd.C_below HR0.out bB); (case side2 => exact HC0.out); rintro e w38 ⟨v110, rfl, ho0, hb⟩; refine ⟨_, rfl, ?_⟩; have HO111 := aL ho0 HB; replace BK101 := Aside0.mk (blk_below (g := gb101) (o := .cells #[.int .u64 x102000_9, .int .u64 x102001_9, .int .u64 x102002_9, .slice none 0 0, .slice none 0 0] 40 (0, 0)) (aKf BK101) hb); replace BK102 := Aside0.mk (blk_below (g := gb102) (o := .cells #[.int .u64 t103, .int .u64 x103001_2, .int .u64 x103002_2] 67 (0, 0)) (by (with_reducible repeat (first | refine blk_drewN ?_ _ | refine blk_drew ?_ | refine blk_alloc ?_ _)); refine blk_put (cs := #[.int .u64 x103000_2, .int .u64 x103001_2, .int .u64 x103002_2]) ?_ 0 _ rfl; (with_reducible repeat (first | refine blk_drewN ?_ _ | refine blk_drew ?_ | refine blk_alloc ?_ _)); exact BK102.out) hb); replace HB := aB HB hb; (try clear hb); (try clear hb2); (try clear hk); (try clear hi); (try clear ho0)) | ((with_reducible refine gate_callee (f := 60) rfl ?_); refine goesL_ (some 93) rfl rfl Tryd.func60 (by kernel_rfl) rfl #[.slice A0 l0.length c0, .int .i64 t108, .int .u8 43] rfl bM ?_; (with_reducible refine (semver_row.calls kj9 _ _ l0 t108 43 t112 t113 t114 _ ?side1 ?side2 A33.out).mono ?_); (case side1 => exact sW (Kd.C_below HR0.out HB.out)); (case side2 => exact HC0.out); rintro e w39 ⟨v115, rfl, ho0, hb⟩; refine ⟨_, rfl, ?_⟩; have HO116 := aN ho0 HO111 HB; replace HO111 := aE HO111 ho0 hb; replace BK101 := aK BK101 hb; replace BK102 := aK BK102 hb; replace HB := aB HB hb; (try clear hb); (try clear hb2); (try clear hk); (try clear hi); (try clear ho0); have hcz40_0 : w39.cell? ⟨gb102, 0, none⟩ = some (.int .u64 t103) := (blk_cell BK102.out 0).trans rfl; have hcz40_1 : w39.cell? ⟨gb102, 1, none⟩ = some (.int .u64 x103001_2) := (blk_cell BK102.out 1).trans rfl; have hcz40_2 : w39.cell? ⟨gb102, 2, none⟩ = some (.int .u64 x103002_2) := (blk_cell BK102.out 2).trans rfl; have hfz40_0 := blk_frozen BK102.out 0; have hfz40_1 := blk_frozen BK102.out 1; have hfz40_2 := blk_frozen BK102.out 2; obtain ⟨Ao41, co41, eo41⟩ := Kd.R_slice HO116.out; subst eo41; obtain ⟨Ao42, co42, eo42⟩ := Kd.R_slice HO111.out; subst eo42; have hcz43_0 : w39.cell? ⟨gb101, 0, none⟩ = some (.int .u64 x102000_9) := (blk_cell BK101.out 0).trans rfl; have hcz43_1 : w39.cell? ⟨gb101, 1, none⟩ = some (.int .u64 x102001_9) := (blk_cell BK101.out 1).trans rfl; have hcz43_2 : w39.cell? ⟨gb101, 2, none⟩ = some (.int .u64 x102002_9) := (blk_cell BK101.out 2).trans rfl; have hcz43_3 : w39.cell? ⟨gb101, 3, none⟩ = some (.slice none 0 0) := (blk_cell BK101.out 3).trans rfl; have hcz43_4 : w39.cell? ⟨gb101, 4, none⟩ = some (.slice none 0 0) := (blk_cell BK101.out 4).trans rfl; have hfz43_0 := blk_frozen BK101.out 0; have hfz43_1 := blk_frozen BK101.out 1; have hfz43_2 := blk_frozen BK101.out 2; have hfz43_3 := blk_frozen BK101.out 3; have hfz43_4 := blk_frozen BK101.out 4))
            (try simp only [Exit.then, Exit.inBlock, Lab.gotos])
            refine bodyPost_ret (results_ctt rfl _ _ gb101 40 #[.int .u64 t103, .int .u64 x103001_2, .int .u64 x103002_2, .slice Ao42 t107.length co42, .slice Ao41 t112.length co41] (0, 0) _ rfl (by (with_reducible repeat (first | refine blk_drewN ?_ _ | refine blk_drew ?_ | refine blk_alloc ?_ _)); refine blk_put (cs := #[.int .u64 t103, .int .u64 x103001_2, .int .u64 x103002_2, .slice Ao42 t107.length co42, .slice none 0 0]) ?_ 4 _ rfl; (with_reducible repeat (first | refine blk_drewN ?_ _ | refine blk_drew ?_ | refine blk_alloc ?_ _)); refine blk_put (cs := #[.int .u64 t103, .int .u64 x103001_2, .int .u64 x103002_2, .slice none 0 0, .slice none 0 0]) ?_ 3 _ rfl; (with_reducible repeat (first | refine blk_drewN ?_ _ | refine blk_drew ?_ | refine blk_alloc ?_ _)); refine blk_put (cs := #[.int .u64 t103, .int .u64 x103001_2, .int .u64 x102002_9, .slice none 0 0, .slice none 0 0]) ?_ 2 _ rfl; (with_reducible repeat (first | refine blk_drewN ?_ _ | refine blk_drew ?_ | refine blk_alloc ?_ _)); refine blk_put (cs := #[.int .u64 t103, .int .u64 x102001_9, .int .u64 x102002_9, .slice none 0 0, .slice none 0 0]) ?_ 1 _ rfl; (with_reducible repeat (first | refine blk_drewN ?_ _ | refine blk_drew ?_ | refine blk_alloc ?_ _)); refine blk_put (cs := #[.int .u64 x102000_9, .int .u64 x102001_9, .int .u64 x102002_9, .slice none 0 0, .slice none 0 0]) ?_ 0 _ rfl; (with_reducible repeat (first | refine blk_drewN ?_ _ | refine blk_drew ?_ | refine blk_alloc ?_ _)); exact BK101.out) Tryd.underlying40 rfl (by kernel_rfl)) rfl ?_
            exact ⟨_, _, by first | rfl | (simp [errW_none, errW_some] <;> rfl) | (simp [*, errW_none, errW_some] <;> rfl), by (with_reducible repeat (first | apply Kd.R_alloc | apply Kd.R_drewN | apply Kd.R_drew)); exact Kd.R_mono (aG HO111 BK101) (fun _ hk => hk.1.2), by (with_reducible repeat (first | apply Kd.R_alloc | apply Kd.R_drewN | apply Kd.R_drew)); exact Kd.R_mono (aG HO116 BK101) (fun _ hk => hk.1.2), bB⟩
           ·rw [if_neg c34] at H
            have c34b0 : (t114 == 0) = false := beq_eq_false_iff_ne.mpr c34
            have c34b1 : (t114 != 0) = true := bne_iff_ne.mpr c34
            simp only [Option.some.injEq, Prod.mk.injEq] at H
            obtain ⟨rfl, rfl, rfl, rfl, rfl, rfl, rfl⟩ := H
            have ix44 : (x8_2 : Int) = 0 := (by first | (with_reducible assumption) | assumption | exact eq_of_beq bA | omega)
            have p44 : (0 ≤ (x8_2 : Int)) = True := eq_true (by omega)
            have q44 : ((x8_2 : Int) < 3) = True := eq_true (by omega)
            have t44 : (x8_2 : Int).toNat = 0 := (by omega)
            clear ix44
            have hnb45 := NB102_101.out
            have hnc45 := NB101_102.out
            have hcz46_0 : wc.cell? ⟨gb102, 0, none⟩ = some (.int .u64 x103000_2) := (blk_cell BK102.out 0).trans rfl
            have hcz46_1 : wc.cell? ⟨gb102, 1, none⟩ = some (.int .u64 x103001_2) := (blk_cell BK102.out 1).trans rfl
            have hcz46_2 : wc.cell? ⟨gb102, 2, none⟩ = some (.int .u64 x103002_2) := (blk_cell BK102.out 2).trans rfl
            have hfz46_0 := blk_frozen BK102.out 0
            have hfz46_1 := blk_frozen BK102.out 1
            have hfz46_2 := blk_frozen BK102.out 2
            go_wp2_with (first | ((with_reducible refine gate_callee (f := 60) rfl ?_); refine goesL_ (some 81) rfl rfl Tryd.func60 (by kernel_rfl) rfl #[.slice A0 l0.length c0, .int .i64 (wrap64 (x1_2 + t104)), .int .u8 45] rfl bM ?_; (with_reducible refine (semver_row.calls kj9 _ _ l0 (wrap64 (x1_2 + t104)) 45 t107 t108 t109 _ ?side1 ?side2 A31.out).mono ?_); (case side1 => exact Kd.C_below HR0.out bB); (case side2 => exact HC0.out); rintro e w47 ⟨v110, rfl, ho0, hb⟩; refine ⟨_, rfl, ?_⟩; have HO111 := aL ho0 HB; replace BK101 := Aside0.mk (blk_below (g := gb101) (o := .cells #[.int .u64 x102000_9, .int .u64 x102001_9, .int .u64 x102002_9, .slice none 0 0, .slice none 0 0] 40 (0, 0)) (aKf BK101) hb); replace BK102 := Aside0.mk (blk_below (g := gb102) (o := .cells #[.int .u64 t103, .int .u64 x103001_2, .int .u64 x103002_2] 67 (0, 0)) (by (with_reducible repeat (first | refine blk_drewN ?_ _ | refine blk_drew ?_ | refine blk_alloc ?_ _)); refine blk_put (cs := #[.int .u64 x103000_2, .int .u64 x103001_2, .int .u64 x103002_2]) ?_ 0 _ rfl; (with_reducible repeat (first | refine blk_drewN ?_ _ | refine blk_drew ?_ | refine blk_alloc ?_ _)); exact BK102.out) hb); replace HB := aB HB hb; (try clear hb); (try clear hb2); (try clear hk); (try clear hi); (try clear ho0)) | ((with_reducible refine gate_callee (f := 60) rfl ?_); refine goesL_ (some 93) rfl rfl Tryd.func60 (by kernel_rfl) rfl #[.slice A0 l0.length c0, .int .i64 t108, .int .u8 43] rfl bM ?_; (with_reducible refine (semver_row.calls kj9 _ _ l0 t108 43 t112 t113 t114 _ ?side1 ?side2 A33.out).mono ?_); (case side1 => exact sW (Kd.C_below HR0.out HB.out)); (case side2 => exact HC0.out); rintro e w48 ⟨v115, rfl, ho0, hb⟩; refine ⟨_, rfl, ?_⟩; have HO116 := aN ho0 HO111 HB; replace HO111 := aE HO111 ho0 hb; replace BK101 := aK BK101 hb; replace BK102 := aK BK102 hb; replace HB := aB HB hb; (try clear hb); (try clear hb2); (try clear hk); (try clear hi); (try clear ho0); have hcz49_0 : w48.cell? ⟨gb101, 0, none⟩ = some (.int .u64 x102000_9) := (blk_cell BK101.out 0).trans rfl; have hcz49_1 : w48.cell? ⟨gb101, 1, none⟩ = some (.int .u64 x102001_9) := (blk_cell BK101.out 1).trans rfl; have hcz49_2 : w48.cell? ⟨gb101, 2, none⟩ = some (.int .u64 x102002_9) := (blk_cell BK101.out 2).trans rfl; have hcz49_3 : w48.cell? ⟨gb101, 3, none⟩ = some (.slice none 0 0) := (blk_cell BK101.out 3).trans rfl; have hcz49_4 : w48.cell? ⟨gb101, 4, none⟩ = some (.slice none 0 0) := (blk_cell BK101.out 4).trans rfl; have hfz49_0 := blk_frozen BK101.out 0; have hfz49_1 := blk_frozen BK101.out 1; have hfz49_2 := blk_frozen BK101.out 2; have hfz49_3 := blk_frozen BK101.out 3; have hfz49_4 := blk_frozen BK101.out 4))
            (try simp only [Exit.then, Exit.inBlock, Lab.gotos])
            refine bodyPost_ret (results_ctt rfl _ _ gb101 40 #[.int .u64 x102000_9, .int .u64 x102001_9, .int .u64 x102002_9, .slice none 0 0, .slice none 0 0] (0, 0) _ rfl (by (with_reducible repeat (first | refine blk_drewN ?_ _ | refine blk_drew ?_ | refine blk_alloc ?_ _)); refine blk_put (cs := #[.int .u64 x102000_9, .int .u64 x102001_9, .int .u64 x102002_9, .slice none 0 0, .slice none 0 0]) ?_ 4 _ rfl; (with_reducible repeat (first | refine blk_drewN ?_ _ | refine blk_drew ?_ | refine blk_alloc ?_ _)); refine blk_put (cs := #[.int .u64 x102000_9, .int .u64 x102001_9, .int .u64 x102002_9, .slice none 0 0, .slice none 0 0]) ?_ 3 _ rfl; (with_reducible repeat (first | refine blk_drewN ?_ _ | refine blk_drew ?_ | refine blk_alloc ?_ _)); refine blk_put (cs := #[.int .u64 x102000_9, .int .u64 x102001_9, .int .u64 x102002_9, .slice none 0 0, .slice none 0 0]) ?_ 2 _ rfl; (with_reducible repeat (first | refine blk_drewN ?_ _ | refine blk_drew ?_ | refine blk_alloc ?_ _)); refine blk_put (cs := #[.int .u64 x102000_9, .int .u64 x102001_9, .int .u64 x102002_9, .slice none 0 0, .slice none 0 0]) ?_ 1 _ rfl; (with_reducible repeat (first | refine blk_drewN ?_ _ | refine blk_drew ?_ | refine blk_alloc ?_ _)); refine blk_put (cs := #[.int .u64 x102000_9, .int .u64 x102001_9, .int .u64 x102002_9, .slice none 0 0, .slice none 0 0]) ?_ 0 _ rfl; (with_reducible repeat (first | refine blk_drewN ?_ _ | refine blk_drew ?_ | refine blk_alloc ?_ _)); exact BK101.out) Tryd.underlying40 rfl (by kernel_rfl)) rfl ?_
            exact ⟨_, _, by first | rfl | (simp [errW_none, errW_some] <;> rfl) | (simp [*, errW_none, errW_some] <;> rfl), by first | exact Kd.R_nil _ _ _ _ _ | exact Kd.N_nil _ _ _ _ _ | exact Kd.V_nil _ _ _ _ _ | exact Kd.Q_nil _ _ _ _ _ | exact Kd.S_nil _ _ _ _ _, by first | exact Kd.R_nil _ _ _ _ _ | exact Kd.N_nil _ _ _ _ _ | exact Kd.V_nil _ _ _ _ _ | exact Kd.Q_nil _ _ _ _ _ | exact Kd.S_nil _ _ _ _ _, bB⟩
          ·rw [if_neg c32] at H
           have c32b0 : (t109 == 0) = false := beq_eq_false_iff_ne.mpr c32
           have c32b1 : (t109 != 0) = true := bne_iff_ne.mpr c32
           simp only [Option.some.injEq, Prod.mk.injEq] at H
           obtain ⟨rfl, rfl, rfl, rfl, rfl, rfl, rfl⟩ := H
           have ix50 : (x8_2 : Int) = 0 := (by first | (with_reducible assumption) | assumption | exact eq_of_beq bA | omega)
           have p50 : (0 ≤ (x8_2 : Int)) = True := eq_true (by omega)
           have q50 : ((x8_2 : Int) < 3) = True := eq_true (by omega)
           have t50 : (x8_2 : Int).toNat = 0 := (by omega)
           clear ix50
           have hnb51 := NB102_101.out
           have hnc51 := NB101_102.out
           have hcz52_0 : wc.cell? ⟨gb102, 0, none⟩ = some (.int .u64 x103000_2) := (blk_cell BK102.out 0).trans rfl
           have hcz52_1 : wc.cell? ⟨gb102, 1, none⟩ = some (.int .u64 x103001_2) := (blk_cell BK102.out 1).trans rfl
           have hcz52_2 : wc.cell? ⟨gb102, 2, none⟩ = some (.int .u64 x103002_2) := (blk_cell BK102.out 2).trans rfl
           have hfz52_0 := blk_frozen BK102.out 0
           have hfz52_1 := blk_frozen BK102.out 1
           have hfz52_2 := blk_frozen BK102.out 2
           go_wp2_with (first | ((with_reducible refine gate_callee (f := 60) rfl ?_); refine goesL_ (some 81) rfl rfl Tryd.func60 (by kernel_rfl) rfl #[.slice A0 l0.length c0, .int .i64 (wrap64 (x1_2 + t104)), .int .u8 45] rfl bM ?_; (with_reducible refine (semver_row.calls kj9 _ _ l0 (wrap64 (x1_2 + t104)) 45 t107 t108 t109 _ ?side1 ?side2 A31.out).mono ?_); (case side1 => exact Kd.C_below HR0.out bB); (case side2 => exact HC0.out); rintro e w53 ⟨v110, rfl, ho0, hb⟩; refine ⟨_, rfl, ?_⟩; have HO111 := aL ho0 HB; replace BK101 := Aside0.mk (blk_below (g := gb101) (o := .cells #[.int .u64 x102000_9, .int .u64 x102001_9, .int .u64 x102002_9, .slice none 0 0, .slice none 0 0] 40 (0, 0)) (aKf BK101) hb); replace BK102 := Aside0.mk (blk_below (g := gb102) (o := .cells #[.int .u64 t103, .int .u64 x103001_2, .int .u64 x103002_2] 67 (0, 0)) (by (with_reducible repeat (first | refine blk_drewN ?_ _ | refine blk_drew ?_ | refine blk_alloc ?_ _)); refine blk_put (cs := #[.int .u64 x103000_2, .int .u64 x103001_2, .int .u64 x103002_2]) ?_ 0 _ rfl; (with_reducible repeat (first | refine blk_drewN ?_ _ | refine blk_drew ?_ | refine blk_alloc ?_ _)); exact BK102.out) hb); replace HB := aB HB hb; (try clear hb); (try clear hb2); (try clear hk); (try clear hi); (try clear ho0); have hcz54_0 : w53.cell? ⟨gb101, 0, none⟩ = some (.int .u64 x102000_9) := (blk_cell BK101.out 0).trans rfl; have hcz54_1 : w53.cell? ⟨gb101, 1, none⟩ = some (.int .u64 x102001_9) := (blk_cell BK101.out 1).trans rfl; have hcz54_2 : w53.cell? ⟨gb101, 2, none⟩ = some (.int .u64 x102002_9) := (blk_cell BK101.out 2).trans rfl; have hcz54_3 : w53.cell? ⟨gb101, 3, none⟩ = some (.slice none 0 0) := (blk_cell BK101.out 3).trans rfl; have hcz54_4 : w53.cell? ⟨gb101, 4, none⟩ = some (.slice none 0 0) := (blk_cell BK101.out 4).trans rfl; have hfz54_0 := blk_frozen BK101.out 0; have hfz54_1 := blk_frozen BK101.out 1; have hfz54_2 := blk_frozen BK101.out 2; have hfz54_3 := blk_frozen BK101.out 3; have hfz54_4 := blk_frozen BK101.out 4))
           (try simp only [Exit.then, Exit.inBlock, Lab.gotos])
           refine bodyPost_ret (results_ctt rfl _ _ gb101 40 #[.int .u64 x102000_9, .int .u64 x102001_9, .int .u64 x102002_9, .slice none 0 0, .slice none 0 0] (0, 0) _ rfl (by (with_reducible repeat (first | refine blk_drewN ?_ _ | refine blk_drew ?_ | refine blk_alloc ?_ _)); refine blk_put (cs := #[.int .u64 x102000_9, .int .u64 x102001_9, .int .u64 x102002_9, .slice none 0 0, .slice none 0 0]) ?_ 4 _ rfl; (with_reducible repeat (first | refine blk_drewN ?_ _ | refine blk_drew ?_ | refine blk_alloc ?_ _)); refine blk_put (cs := #[.int .u64 x102000_9, .int .u64 x102001_9, .int .u64 x102002_9, .slice none 0 0, .slice none 0 0]) ?_ 3 _ rfl; (with_reducible repeat (first | refine blk_drewN ?_ _ | refine blk_drew ?_ | refine blk_alloc ?_ _)); refine blk_put (cs := #[.int .u64 x102000_9, .int .u64 x102001_9, .int .u64 x102002_9, .slice none 0 0, .slice none 0 0]) ?_ 2 _ rfl; (with_reducible repeat (first | refine blk_drewN ?_ _ | refine blk_drew ?_ | refine blk_alloc ?_ _)); refine blk_put (cs := #[.int .u64 x102000_9, .int .u64 x102001_9, .int .u64 x102002_9, .slice none 0 0, .slice none 0 0]) ?_ 1 _ rfl; (with_reducible repeat (first | refine blk_drewN ?_ _ | refine blk_drew ?_ | refine blk_alloc ?_ _)); refine blk_put (cs := #[.int .u64 x102000_9, .int .u64 x102001_9, .int .u64 x102002_9, .slice none 0 0, .slice none 0 0]) ?_ 0 _ rfl; (with_reducible repeat (first | refine blk_drewN ?_ _ | refine blk_drew ?_ | refine blk_alloc ?_ _)); exact BK101.out) Tryd.underlying40 rfl (by kernel_rfl)) rfl ?_
           exact ⟨_, _, by first | rfl | (simp [errW_none, errW_some] <;> rfl) | (simp [*, errW_none, errW_some] <;> rfl), by first | exact Kd.R_nil _ _ _ _ _ | exact Kd.N_nil _ _ _ _ _ | exact Kd.V_nil _ _ _ _ _ | exact Kd.Q_nil _ _ _ _ _ | exact Kd.S_nil _ _ _ _ _, by first | exact Kd.R_nil _ _ _ _ _ | exact Kd.N_nil _ _ _ _ _ | exact Kd.V_nil _ _ _ _ _ | exact Kd.Q_nil _ _ _ _ _ | exact Kd.S_nil _ _ _ _ _, bB⟩
        ·rw [if_neg c26] at H
         have c26b0 : (x8_2 == 0) = false := beq_eq_false_iff_ne.mpr c26
         have c26b1 : (x8_2 != 0) = true := bne_iff_ne.mpr c26
         by_cases c55 : x8_2 = 1
         ·rw [if_pos c55] at H
          have c55b0 : (x8_2 == 1) = true := beq_iff_eq.mpr c55
          have c55b1 : (x8_2 != 1) = false := bne_eq_false_iff_eq.mpr c55
          clear c55
          by_cases c56 : x8_2 < 2
          ·rw [if_pos c56] at H
           have c56b0 : decide (x8_2 < 2) = true := decide_eq_true c56
           clear c56
           have H' := Aside0.mk H
           clear H
           have ix57 : (x8_2 : Int) = 1 := (by first | (with_reducible assumption) | assumption | exact eq_of_beq bA | omega)
           have p57 : (0 ≤ (x8_2 : Int)) = True := eq_true (by omega)
           have q57 : ((x8_2 : Int) < 3) = True := eq_true (by omega)
           have t57 : (x8_2 : Int).toNat = 1 := (by omega)
           clear ix57
           have hnb58 := NB102_101.out
           have hnc58 := NB101_102.out
           have hcz59_0 : wc.cell? ⟨gb102, 0, none⟩ = some (.int .u64 x103000_2) := (blk_cell BK102.out 0).trans rfl
           have hcz59_1 : wc.cell? ⟨gb102, 1, none⟩ = some (.int .u64 x103001_2) := (blk_cell BK102.out 1).trans rfl
           have hcz59_2 : wc.cell? ⟨gb102, 2, none⟩ = some (.int .u64 x103002_2) := (blk_cell BK102.out 2).trans rfl
           have hfz59_0 := blk_frozen BK102.out 0
           have hfz59_1 := blk_frozen BK102.out 1
           have hfz59_2 := blk_frozen BK102.out 2
           go_wp2
           go_step3
           (try simp only [Exit.then, Exit.inBlock, Lab.gotos])
           refine Lab.again HIH_0 kj9 ?lm1 ?lm2 ?lm3
           case lm1 => have := HJ2.out; have := HK2.out; have := HJ9.out; omega
           case lm2 => have := HJ2.out; have := HK2.out; have := HJ9.out; omega
           case lm3 =>
            (repeat apply Exists.intro)
            refine ⟨?rel, ?fr⟩
            case fr => (simp only [Act.put, List.setIfInBounds_toArray, List.set_cons_zero, List.set_cons_succ] <;> rfl)
            case rel => exact ⟨(wrap64 ((wrap64 (x1_2 + t104)) + 1)), (wrap64 (x8_2 + 1)), (x102000_9), (x102001_9), (x102002_9), (x103000_2), (t103), (x103002_2), bS, bS, H', ⟨by have := HJ2.out; have := HK2.out; have := HJ9.out; omega⟩, ⟨aKf BK101⟩, ⟨by (with_reducible repeat (first | refine blk_drewN ?_ _ | refine blk_drew ?_ | refine blk_alloc ?_ _)); refine blk_put (cs := #[.int .u64 x103000_2, .int .u64 x103001_2, .int .u64 x103002_2]) ?_ 1 _ rfl; (with_reducible repeat (first | refine blk_drewN ?_ _ | refine blk_drew ?_ | refine blk_alloc ?_ _)); exact BK102.out⟩, ⟨bB⟩⟩
          ·rw [if_neg c56] at H
           have c56b0 : decide (x8_2 < 2) = false := decide_eq_false c56
           clear c56
           replace H := Option.bind_eq_some_iff.mp H
           obtain ⟨⟨t117, t118, t119⟩, A600, H⟩ := H
           replace H : (if t119 = 0 then ((semver_row.f kj9 l0 t118 43).bind fun bt122 => (if bt122.2.2 = 0 then (some (x103000_2, t103, x103002_2, t117, bt122.1, bt122.2.1, 0)) else (some (x102000_9, x102001_9, x102002_9, ([] : List ByteArray), ([] : List ByteArray), bt122.2.1, bt122.2.2)))) else (some (x102000_9, x102001_9, x102002_9, ([] : List ByteArray), ([] : List ByteArray), t118, t119))) = some (r1, r2, r3, r4, r5, r6, r7) := H
           have A60 := Aside0.mk A600
           clear A600
           by_cases c61 : t119 = 0
           ·rw [if_pos c61] at H
            have c61b0 : (t119 == 0) = true := beq_iff_eq.mpr c61
            have c61b1 : (t119 != 0) = false := bne_eq_false_iff_eq.mpr c61
            clear c61
            replace H := Option.bind_eq_some_iff.mp H
            obtain ⟨⟨t122, t123, t124⟩, A620, H⟩ := H
            replace H : (if t124 = 0 then (some (x103000_2, t103, x103002_2, t117, t122, t123, 0)) else (some (x102000_9, x102001_9, x102002_9, ([] : List ByteArray), ([] : List ByteArray), t123, t124))) = some (r1, r2, r3, r4, r5, r6, r7) := H
            have A62 := Aside0.mk A620
            clear A620
            by_cases c63 : t124 = 0
            ·rw [if_pos c63] at H
             have c63b0 : (t124 == 0) = true := beq_iff_eq.mpr c63
             have c63b1 : (t124 != 0) = false := bne_eq_false_iff_eq.mpr c63
             clear c63
             simp only [Option.some.injEq, Prod.mk.injEq] at H
             obtain ⟨rfl, rfl, rfl, rfl, rfl, rfl, rfl⟩ := H
             have ix64 : (x8_2 : Int) = 1 := (by first | (with_reducible assumption) | assumption | exact eq_of_beq bA | omega)
             have p64 : (0 ≤ (x8_2 : Int)) = True := eq_true (by omega)
             have q64 : ((x8_2 : Int) < 3) = True := eq_true (by omega)
             have t64 : (x8_2 : Int).toNat = 1 := (by omega)
             clear ix64
             have hnb65 := NB102_101.out
             have hnc65 := NB101_102.out
             have hcz66_0 : wc.cell? ⟨gb102, 0, none⟩ = some (.int .u64 x103000_2) := (blk_cell BK102.out 0).trans rfl
             have hcz66_1 : wc.cell? ⟨gb102, 1, none⟩ = some (.int .u64 x103001_2) := (blk_cell BK102.out 1).trans rfl
             have hcz66_2 : wc.cell? ⟨gb102, 2, none⟩ = some (.int .u64 x103002_2) := (blk_cell BK102.out 2).trans rfl
             have hfz66_0 := blk_frozen BK102.out 0
             have hfz66_1 := blk_frozen BK102.out 1
             have hfz66_2 := blk_frozen BK102.out 2
             go_wp2_with (first | ((with_reducible refine gate_callee (f := 60) rfl ?_); refine goesL_ (some 81) rfl rfl Tryd.func60 (by kernel_rfl) rfl #[.slice A0 l0.length c0, .int .i64 (wrap64 (x1_2 + t104)), .int .u8 45] rfl bM ?_; (with_reducible refine (semver_row.calls kj9 _ _ l0 (wrap64 (x1_2 + t104)) 45 t117 t118 t119 _ ?side1 ?side2 A60.out).mono ?_); (case side1 => exact Kd.C_below HR0.out bB); (case side2 => exact HC0.out); rintro e w67 ⟨v120, rfl, ho0, hb⟩; refine ⟨_, rfl, ?_⟩; have HO121 := aL ho0 HB; replace BK101 := Aside0.mk (blk_below (g := gb101) (o := .cells #[.int .u64 x102000_9, .int .u64 x102001_9, .int .u64 x102002_9, .slice none 0 0, .slice none 0 0] 40 (0, 0)) (aKf BK101) hb); replace BK102 := Aside0.mk (blk_below (g := gb102) (o := .cells #[.int .u64 x103000_2, .int .u64 t103, .int .u64 x103002_2] 67 (0, 0)) (by (with_reducible repeat (first | refine blk_drewN ?_ _ | refine blk_drew ?_ | refine blk_alloc ?_ _)); refine blk_put (cs := #[.int .u64 x103000_2, .int .u64 x103001_2, .int .u64 x103002_2]) ?_ 1 _ rfl; (with_reducible repeat (first | refine blk_drewN ?_ _ | refine blk_drew ?_ | refine blk_alloc ?_ _)); exact BK102.out) hb); replace HB := aB HB hb; (try clear hb); (try clear hb2); (try clear hk); (try clear hi); (try clear ho0)) | ((with_reducible refine gate_callee (f := 60) rfl ?_); refine goesL_ (some 93) rfl rfl Tryd.func60 (by kernel_rfl) rfl #[.slice A0 l0.length c0, .int .i64 t118, .int .u8 43] rfl bM ?_; (with_reducible refine (semver_row.calls kj9 _ _ l0 t118 43 t122 t123 t124 _ ?side1 ?side2 A62.out).mono ?_); (case side1 => exact sW (Kd.C_below HR0.out HB.out)); (case side2 => exact HC0.out); rintro e w68 ⟨v125, rfl, ho0, hb⟩; refine ⟨_, rfl, ?_⟩; have HO126 := aN ho0 HO121 HB; replace HO121 := aE HO121 ho0 hb; replace BK101 := aK BK101 hb; replace BK102 := aK BK102 hb; replace HB := aB HB hb; (try clear hb); (try clear hb2); (try clear hk); (try clear hi); (try clear ho0); have hcz69_0 : w68.cell? ⟨gb102, 0, none⟩ = some (.int .u64 x103000_2) := (blk_cell BK102.out 0).trans rfl; have hcz69_1 : w68.cell? ⟨gb102, 1, none⟩ = some (.int .u64 t103) := (blk_cell BK102.out 1).trans rfl; have hcz69_2 : w68.cell? ⟨gb102, 2, none⟩ = some (.int .u64 x103002_2) := (blk_cell BK102.out 2).trans rfl; have hfz69_0 := blk_frozen BK102.out 0; have hfz69_1 := blk_frozen BK102.out 1; have hfz69_2 := blk_frozen BK102.out 2; obtain ⟨Ao70, co70, eo70⟩ := Kd.R_slice HO126.out; subst eo70; obtain ⟨Ao71, co71, eo71⟩ := Kd.R_slice HO121.out; subst eo71; have hcz72_0 : w68.cell? ⟨gb101, 0, none⟩ = some (.int .u64 x102000_9) := (blk_cell BK101.out 0).trans rfl; have hcz72_1 : w68.cell? ⟨gb101, 1, none⟩ = some (.int .u64 x102001_9) := (blk_cell BK101.out 1).trans rfl; have hcz72_2 : w68.cell? ⟨gb101, 2, none⟩ = some (.int .u64 x102002_9) := (blk_cell BK101.out 2).trans rfl; have hcz72_3 : w68.cell? ⟨gb101, 3, none⟩ = some (.slice none 0 0) := (blk_cell BK101.out 3).trans rfl; have hcz72_4 : w68.cell? ⟨gb101, 4, none⟩ = some (.slice none 0 0) := (blk_cell BK101.out 4).trans rfl; have hfz72_0 := blk_frozen BK101.out 0; have hfz72_1 := blk_frozen BK101.out 1; have hfz72_2 := blk_frozen BK101.out 2; have hfz72_3 := blk_frozen BK101.out 3; have hfz72_4 := blk_frozen BK101.out 4))
             (try simp only [Exit.then, Exit.inBlock, Lab.gotos])
             refine bodyPost_ret (results_ctt rfl _ _ gb101 40 #[.int .u64 x103000_2, .int .u64 t103, .int .u64 x103002_2, .slice Ao71 t117.length co71, .slice Ao70 t122.length co70] (0, 0) _ rfl (by (with_reducible repeat (first | refine blk_drewN ?_ _ | refine blk_drew ?_ | refine blk_alloc ?_ _)); refine blk_put (cs := #[.int .u64 x103000_2, .int .u64 t103, .int .u64 x103002_2, .slice Ao71 t117.length co71, .slice none 0 0]) ?_ 4 _ rfl; (with_reducible repeat (first | refine blk_drewN ?_ _ | refine blk_drew ?_ | refine blk_alloc ?_ _)); refine blk_put (cs := #[.int .u64 x103000_2, .int .u64 t103, .int .u64 x103002_2, .slice none 0 0, .slice none 0 0]) ?_ 3 _ rfl; (with_reducible repeat (first | refine blk_drewN ?_ _ | refine blk_drew ?_ | refine blk_alloc ?_ _)); refine blk_put (cs := #[.int .u64 x103000_2, .int .u64 t103, .int .u64 x102002_9, .slice none 0 0, .slice none 0 0]) ?_ 2 _ rfl; (with_reducible repeat (first | refine blk_drewN ?_ _ | refine blk_drew ?_ | refine blk_alloc ?_ _)); refine blk_put (cs := #[.int .u64 x103000_2, .int .u64 x102001_9, .int .u64 x102002_9, .slice none 0 0, .slice none 0 0]) ?_ 1 _ rfl; (with_reducible repeat (first | refine blk_drewN ?_ _ | refine blk_drew ?_ | refine blk_alloc ?_ _)); refine blk_put (cs := #[.int .u64 x102000_9, .int .u64 x102001_9, .int .u64 x102002_9, .slice none 0 0, .slice none 0 0]) ?_ 0 _ rfl; (with_reducible repeat (first | refine blk_drewN ?_ _ | refine blk_drew ?_ | refine blk_alloc ?_ _)); exact BK101.out) Tryd.underlying40 rfl (by kernel_rfl)) rfl ?_
             exact ⟨_, _, by first | rfl | (simp [errW_none, errW_some] <;> rfl) | (simp [*, errW_none, errW_some] <;> rfl), by (with_reducible repeat (first | apply Kd.R_alloc | apply Kd.R_drewN | apply Kd.R_drew)); exact Kd.R_mono (aG HO121 BK101) (fun _ hk => hk.1.2), by (with_reducible repeat (first | apply Kd.R_alloc | apply Kd.R_drewN | apply Kd.R_drew)); exact Kd.R_mono (aG HO126 BK101) (fun _ hk => hk.1.2), bB⟩
            ·rw [if_neg c63] at H
             have c63b0 : (t124 == 0) = false := beq_eq_false_iff_ne.mpr c63
             have c63b1 : (t124 != 0) = true := bne_iff_ne.mpr c63
             simp only [Option.some.injEq, Prod.mk.injEq] at H
             obtain ⟨rfl, rfl, rfl, rfl, rfl, rfl, rfl⟩ := H
             have ix73 : (x8_2 : Int) = 1 := (by first | (with_reducible assumption) | assumption | exact eq_of_beq bA | omega)
             have p73 : (0 ≤ (x8_2 : Int)) = True := eq_true (by omega)
             have q73 : ((x8_2 : Int) < 3) = True := eq_true (by omega)
             have t73 : (x8_2 : Int).toNat = 1 := (by omega)
             clear ix73
             have hnb74 := NB102_101.out
             have hnc74 := NB101_102.out
             have hcz75_0 : wc.cell? ⟨gb102, 0, none⟩ = some (.int .u64 x103000_2) := (blk_cell BK102.out 0).trans rfl
             have hcz75_1 : wc.cell? ⟨gb102, 1, none⟩ = some (.int .u64 x103001_2) := (blk_cell BK102.out 1).trans rfl
             have hcz75_2 : wc.cell? ⟨gb102, 2, none⟩ = some (.int .u64 x103002_2) := (blk_cell BK102.out 2).trans rfl
             have hfz75_0 := blk_frozen BK102.out 0
             have hfz75_1 := blk_frozen BK102.out 1
             have hfz75_2 := blk_frozen BK102.out 2
             go_wp2_with (first | ((with_reducible refine gate_callee (f := 60) rfl ?_); refine goesL_ (some 81) rfl rfl Tryd.func60 (by kernel_rfl) rfl #[.slice A0 l0.length c0, .int .i64 (wrap64 (x1_2 + t104)), .int .u8 45] rfl bM ?_; (with_reducible refine (semver_row.calls kj9 _ _ l0 (wrap64 (x1_2 + t104)) 45 t117 t118 t119 _ ?side1 ?side2 A60.out).mono ?_); (case side1 => exact Kd.C_below HR0.out bB); (case side2 => exact HC0.out); rintro e w76 ⟨v120, rfl, ho0, hb⟩; refine ⟨_, rfl, ?_⟩; have HO121 := aL ho0 HB; replace BK101 := Aside0.mk (blk_below (g := gb101) (o := .cells #[.int .u64 x102000_9, .int .u64 x102001_9, .int .u64 x102002_9, .slice none 0 0, .slice none 0 0] 40 (0, 0)) (aKf BK101) hb); replace BK102 := Aside0.mk (blk_below (g := gb102) (o := .cells #[.int .u64 x103000_2, .int .u64 t103, .int .u64 x103002_2] 67 (0, 0)) (by (with_reducible repeat (first | refine blk_drewN ?_ _ | refine blk_drew ?_ | refine blk_alloc ?_ _)); refine blk_put (cs := #[.int .u64 x103000_2, .int .u64 x103001_2, .int .u64 x103002_2]) ?_ 1 _ rfl; (with_reducible repeat (first | refine blk_drewN ?_ _ | refine blk_drew ?_ | refine blk_alloc ?_ _)); exact BK102.out) hb); replace HB := aB HB hb; (try clear hb); (try clear hb2); (try clear hk); (try clear hi); (try clear ho0)) | ((with_reducible refine gate_callee (f := 60) rfl ?_); refine goesL_ (some 93) rfl rfl Tryd.func60 (by kernel_rfl) rfl #[.slice A0 l0.length c0, .int .i64 t118, .int .u8 43] rfl bM ?_; (with_reducible refine (semver_row.calls kj9 _ _ l0 t118 43 t122 t123 t124 _ ?side1 ?side2 A62.out).mono ?_); (case side1 => exact sW (Kd.C_below HR0.out HB.out)); (case side2 => exact HC0.out); rintro e w77 ⟨v125, rfl, ho0, hb⟩; refine ⟨_, rfl, ?_⟩; have HO126 := aN ho0 HO121 HB; replace HO121 := aE HO121 ho0 hb; replace BK101 := aK BK101 hb; replace BK102 := aK BK102 hb; replace HB := aB HB hb; (try clear hb); (try clear hb2); (try clear hk); (try clear hi); (try clear ho0); have hcz78_0 : w77.cell? ⟨gb101, 0, none⟩ = some (.int .u64 x102000_9) := (blk_cell BK101.out 0).trans rfl; have hcz78_1 : w77.cell? ⟨gb101, 1, none⟩ = some (.int .u64 x102001_9) := (blk_cell BK101.out 1).trans rfl; have hcz78_2 : w77.cell? ⟨gb101, 2, none⟩ = some (.int .u64 x102002_9) := (blk_cell BK101.out 2).trans rfl; have hcz78_3 : w77.cell? ⟨gb101, 3, none⟩ = some (.slice none 0 0) := (blk_cell BK101.out 3).trans rfl; have hcz78_4 : w77.cell? ⟨gb101, 4, none⟩ = some (.slice none 0 0) := (blk_cell BK101.out 4).trans rfl; have hfz78_0 := blk_frozen BK101.out 0; have hfz78_1 := blk_frozen BK101.out 1; have hfz78_2 := blk_frozen BK101.out 2; have hfz78_3 := blk_frozen BK101.out 3; have hfz78_4 := blk_frozen BK101.out 4))
             (try simp only [Exit.then, Exit.inBlock, Lab.gotos])
             refine bodyPost_ret (results_ctt rfl _ _ gb101 40 #[.int .u64 x102000_9, .int .u64 x102001_9, .int .u64 x102002_9, .slice none 0 0, .slice none 0 0] (0, 0) _ rfl (by (with_reducible repeat (first | refine blk_drewN ?_ _ | refine blk_drew ?_ | refine blk_alloc ?_ _)); refine blk_put (cs := #[.int .u64 x102000_9, .int .u64 x102001_9, .int .u64 x102002_9, .slice none 0 0, .slice none 0 0]) ?_ 4 _ rfl; (with_reducible repeat (first | refine blk_drewN ?_ _ | refine blk_drew ?_ | refine blk_alloc ?_ _)); refine blk_put (cs := #[.int .u64 x102000_9, .int .u64 x102001_9, .int .u64 x102002_9, .slice none 0 0, .slice none 0 0]) ?_ 3 _ rfl; (with_reducible repeat (first | refine blk_drewN ?_ _ | refine blk_drew ?_ | refine blk_alloc ?_ _)); refine blk_put (cs := #[.int .u64 x102000_9, .int .u64 x102001_9, .int .u64 x102002_9, .slice none 0 0, .slice none 0 0]) ?_ 2 _ rfl; (with_reducible repeat (first | refine blk_drewN ?_ _ | refine blk_drew ?_ | refine blk_alloc ?_ _)); refine blk_put (cs := #[.int .u64 x102000_9, .int .u64 x102001_9, .int .u64 x102002_9, .slice none 0 0, .slice none 0 0]) ?_ 1 _ rfl; (with_reducible repeat (first | refine blk_drewN ?_ _ | refine blk_drew ?_ | refine blk_alloc ?_ _)); refine blk_put (cs := #[.int .u64 x102000_9, .int .u64 x102001_9, .int .u64 x102002_9, .slice none 0 0, .slice none 0 0]) ?_ 0 _ rfl; (with_reducible repeat (first | refine blk_drewN ?_ _ | refine blk_drew ?_ | refine blk_alloc ?_ _)); exact BK101.out) Tryd.underlying40 rfl (by kernel_rfl)) rfl ?_
             exact ⟨_, _, by first | rfl | (simp [errW_none, errW_some] <;> rfl) | (simp [*, errW_none, errW_some] <;> rfl), by first | exact Kd.R_nil _ _ _ _ _ | exact Kd.N_nil _ _ _ _ _ | exact Kd.V_nil _ _ _ _ _ | exact Kd.Q_nil _ _ _ _ _ | exact Kd.S_nil _ _ _ _ _, by first | exact Kd.R_nil _ _ _ _ _ | exact Kd.N_nil _ _ _ _ _ | exact Kd.V_nil _ _ _ _ _ | exact Kd.Q_nil _ _ _ _ _ | exact Kd.S_nil _ _ _ _ _, bB⟩
           ·rw [if_neg c61] at H
            have c61b0 : (t119 == 0) = false := beq_eq_false_iff_ne.mpr c61
            have c61b1 : (t119 != 0) = true := bne_iff_ne.mpr c61
            simp only [Option.some.injEq, Prod.mk.injEq] at H
            obtain ⟨rfl, rfl, rfl, rfl, rfl, rfl, rfl⟩ := H
            have ix79 : (x8_2 : Int) = 1 := (by first | (with_reducible assumption) | assumption | exact eq_of_beq bA | omega)
            have p79 : (0 ≤ (x8_2 : Int)) = True := eq_true (by omega)
            have q79 : ((x8_2 : Int) < 3) = True := eq_true (by omega)
            have t79 : (x8_2 : Int).toNat = 1 := (by omega)
            clear ix79
            have hnb80 := NB102_101.out
            have hnc80 := NB101_102.out
            have hcz81_0 : wc.cell? ⟨gb102, 0, none⟩ = some (.int .u64 x103000_2) := (blk_cell BK102.out 0).trans rfl
            have hcz81_1 : wc.cell? ⟨gb102, 1, none⟩ = some (.int .u64 x103001_2) := (blk_cell BK102.out 1).trans rfl
            have hcz81_2 : wc.cell? ⟨gb102, 2, none⟩ = some (.int .u64 x103002_2) := (blk_cell BK102.out 2).trans rfl
            have hfz81_0 := blk_frozen BK102.out 0
            have hfz81_1 := blk_frozen BK102.out 1
            have hfz81_2 := blk_frozen BK102.out 2
            go_wp2_with (first | ((with_reducible refine gate_callee (f := 60) rfl ?_); refine goesL_ (some 81) rfl rfl Tryd.func60 (by kernel_rfl) rfl #[.slice A0 l0.length c0, .int .i64 (wrap64 (x1_2 + t104)), .int .u8 45] rfl bM ?_; (with_reducible refine (semver_row.calls kj9 _ _ l0 (wrap64 (x1_2 + t104)) 45 t117 t118 t119 _ ?side1 ?side2 A60.out).mono ?_); (case side1 => exact Kd.C_below HR0.out bB); (case side2 => exact HC0.out); rintro e w82 ⟨v120, rfl, ho0, hb⟩; refine ⟨_, rfl, ?_⟩; have HO121 := aL ho0 HB; replace BK101 := Aside0.mk (blk_below (g := gb101) (o := .cells #[.int .u64 x102000_9, .int .u64 x102001_9, .int .u64 x102002_9, .slice none 0 0, .slice none 0 0] 40 (0, 0)) (aKf BK101) hb); replace BK102 := Aside0.mk (blk_below (g := gb102) (o := .cells #[.int .u64 x103000_2, .int .u64 t103, .int .u64 x103002_2] 67 (0, 0)) (by (with_reducible repeat (first | refine blk_drewN ?_ _ | refine blk_drew ?_ | refine blk_alloc ?_ _)); refine blk_put (cs := #[.int .u64 x103000_2, .int .u64 x103001_2, .int .u64 x103002_2]) ?_ 1 _ rfl; (with_reducible repeat (first | refine blk_drewN ?_ _ | refine blk_drew ?_ | refine blk_alloc ?_ _)); exact BK102.out) hb); replace HB := aB HB hb; (try clear hb); (try clear hb2); (try clear hk); (try clear hi); (try clear ho0); have hcz83_0 : w82.cell? ⟨gb101, 0, none⟩ = some (.int .u64 x102000_9) := (blk_cell BK101.out 0).trans rfl; have hcz83_1 : w82.cell? ⟨gb101, 1, none⟩ = some (.int .u64 x102001_9) := (blk_cell BK101.out 1).trans rfl; have hcz83_2 : w82.cell? ⟨gb101, 2, none⟩ = some (.int .u64 x102002_9) := (blk_cell BK101.out 2).trans rfl; have hcz83_3 : w82.cell? ⟨gb101, 3, none⟩ = some (.slice none 0 0) := (blk_cell BK101.out 3).trans rfl; have hcz83_4 : w82.cell? ⟨gb101, 4, none⟩ = some (.slice none 0 0) := (blk_cell BK101.out 4).trans rfl; have hfz83_0 := blk_frozen BK101.out 0; have hfz83_1 := blk_frozen BK101.out 1; have hfz83_2 := blk_frozen BK101.out 2; have hfz83_3 := blk_frozen BK101.out 3; have hfz83_4 := blk_frozen BK101.out 4))
            (try simp only [Exit.then, Exit.inBlock, Lab.gotos])
            refine bodyPost_ret (results_ctt rfl _ _ gb101 40 #[.int .u64 x102000_9, .int .u64 x102001_9, .int .u64 x102002_9, .slice none 0 0, .slice none 0 0] (0, 0) _ rfl (by (with_reducible repeat (first | refine blk_drewN ?_ _ | refine blk_drew ?_ | refine blk_alloc ?_ _)); refine blk_put (cs := #[.int .u64 x102000_9, .int .u64 x102001_9, .int .u64 x102002_9, .slice none 0 0, .slice none 0 0]) ?_ 4 _ rfl; (with_reducible repeat (first | refine blk_drewN ?_ _ | refine blk_drew ?_ | refine blk_alloc ?_ _)); refine blk_put (cs := #[.int .u64 x102000_9, .int .u64 x102001_9, .int .u64 x102002_9, .slice none 0 0, .slice none 0 0]) ?_ 3 _ rfl; (with_reducible repeat (first | refine blk_drewN ?_ _ | refine blk_drew ?_ | refine blk_alloc ?_ _)); refine blk_put (cs := #[.int .u64 x102000_9, .int .u64 x102001_9, .int .u64 x102002_9, .slice none 0 0, .slice none 0 0]) ?_ 2 _ rfl; (with_reducible repeat (first | refine blk_drewN ?_ _ | refine blk_drew ?_ | refine blk_alloc ?_ _)); refine blk_put (cs := #[.int .u64 x102000_9, .int .u64 x102001_9, .int .u64 x102002_9, .slice none 0 0, .slice none 0 0]) ?_ 1 _ rfl; (with_reducible repeat (first | refine blk_drewN ?_ _ | refine blk_drew ?_ | refine blk_alloc ?_ _)); refine blk_put (cs := #[.int .u64 x102000_9, .int .u64 x102001_9, .int .u64 x102002_9, .slice none 0 0, .slice none 0 0]) ?_ 0 _ rfl; (with_reducible repeat (first | refine blk_drewN ?_ _ | refine blk_drew ?_ | refine blk_alloc ?_ _)); exact BK101.out) Tryd.underlying40 rfl (by kernel_rfl)) rfl ?_
            exact ⟨_, _, by first | rfl | (simp [errW_none, errW_some] <;> rfl) | (simp [*, errW_none, errW_some] <;> rfl), by first | exact Kd.R_nil _ _ _ _ _ | exact Kd.N_nil _ _ _ _ _ | exact Kd.V_nil _ _ _ _ _ | exact Kd.Q_nil _ _ _ _ _ | exact Kd.S_nil _ _ _ _ _, by first | exact Kd.R_nil _ _ _ _ _ | exact Kd.N_nil _ _ _ _ _ | exact Kd.V_nil _ _ _ _ _ | exact Kd.Q_nil _ _ _ _ _ | exact Kd.S_nil _ _ _ _ _, bB⟩
         ·rw [if_neg c55] at H
          have c55b0 : (x8_2 == 1) = false := beq_eq_false_iff_ne.mpr c55
          have c55b1 : (x8_2 != 1) = true := bne_iff_ne.mpr c55
          by_cases c84 : x8_2 = 2
          ·rw [if_pos c84] at H
           have c84b0 : (x8_2 == 2) = true := beq_iff_eq.mpr c84
           have c84b1 : (x8_2 != 2) = false := bne_eq_false_iff_eq.mpr c84
           clear c84
           by_cases c85 : x8_2 < 2
           ·rw [if_pos c85] at H
            have c85b0 : decide (x8_2 < 2) = true := decide_eq_true c85
            clear c85
            have H' := Aside0.mk H
            clear H
            have ix86 : (x8_2 : Int) = 2 := (by first | (with_reducible assumption) | assumption | exact eq_of_beq bA | omega)
            have p86 : (0 ≤ (x8_2 : Int)) = True := eq_true (by omega)
            have q86 : ((x8_2 : Int) < 3) = True := eq_true (by omega)
            have t86 : (x8_2 : Int).toNat = 2 := (by omega)
            clear ix86
            have hnb87 := NB102_101.out
            have hnc87 := NB101_102.out
            have hcz88_0 : wc.cell? ⟨gb102, 0, none⟩ = some (.int .u64 x103000_2) := (blk_cell BK102.out 0).trans rfl
            have hcz88_1 : wc.cell? ⟨gb102, 1, none⟩ = some (.int .u64 x103001_2) := (blk_cell BK102.out 1).trans rfl
            have hcz88_2 : wc.cell? ⟨gb102, 2, none⟩ = some (.int .u64 x103002_2) := (blk_cell BK102.out 2).trans rfl
            have hfz88_0 := blk_frozen BK102.out 0
            have hfz88_1 := blk_frozen BK102.out 1
            have hfz88_2 := blk_frozen BK102.out 2
            go_wp2
            go_step3
            (try simp only [Exit.then, Exit.inBlock, Lab.gotos])
            refine Lab.again HIH_0 kj9 ?lm1 ?lm2 ?lm3
            case lm1 => have := HJ2.out; have := HK2.out; have := HJ9.out; omega
            case lm2 => have := HJ2.out; have := HK2.out; have := HJ9.out; omega
            case lm3 =>
             (repeat apply Exists.intro)
             refine ⟨?rel, ?fr⟩
             case fr => (simp only [Act.put, List.setIfInBounds_toArray, List.set_cons_zero, List.set_cons_succ] <;> rfl)
             case rel => exact ⟨(wrap64 ((wrap64 (x1_2 + t104)) + 1)), (wrap64 (x8_2 + 1)), (x102000_9), (x102001_9), (x102002_9), (x103000_2), (x103001_2), (t103), bS, bS, H', ⟨by have := HJ2.out; have := HK2.out; have := HJ9.out; omega⟩, ⟨aKf BK101⟩, ⟨by (with_reducible repeat (first | refine blk_drewN ?_ _ | refine blk_drew ?_ | refine blk_alloc ?_ _)); refine blk_put (cs := #[.int .u64 x103000_2, .int .u64 x103001_2, .int .u64 x103002_2]) ?_ 2 _ rfl; (with_reducible repeat (first | refine blk_drewN ?_ _ | refine blk_drew ?_ | refine blk_alloc ?_ _)); exact BK102.out⟩, ⟨bB⟩⟩
           ·rw [if_neg c85] at H
            have c85b0 : decide (x8_2 < 2) = false := decide_eq_false c85
            clear c85
            replace H := Option.bind_eq_some_iff.mp H
            obtain ⟨⟨t127, t128, t129⟩, A890, H⟩ := H
            replace H : (if t129 = 0 then ((semver_row.f kj9 l0 t128 43).bind fun bt132 => (if bt132.2.2 = 0 then (some (x103000_2, x103001_2, t103, t127, bt132.1, bt132.2.1, 0)) else (some (x102000_9, x102001_9, x102002_9, ([] : List ByteArray), ([] : List ByteArray), bt132.2.1, bt132.2.2)))) else (some (x102000_9, x102001_9, x102002_9, ([] : List ByteArray), ([] : List ByteArray), t128, t129))) = some (r1, r2, r3, r4, r5, r6, r7) := H
            have A89 := Aside0.mk A890
            clear A890
            by_cases c90 : t129 = 0
            ·rw [if_pos c90] at H
             have c90b0 : (t129 == 0) = true := beq_iff_eq.mpr c90
             have c90b1 : (t129 != 0) = false := bne_eq_false_iff_eq.mpr c90
             clear c90
             replace H := Option.bind_eq_some_iff.mp H
             obtain ⟨⟨t132, t133, t134⟩, A910, H⟩ := H
             replace H : (if t134 = 0 then (some (x103000_2, x103001_2, t103, t127, t132, t133, 0)) else (some (x102000_9, x102001_9, x102002_9, ([] : List ByteArray), ([] : List ByteArray), t133, t134))) = some (r1, r2, r3, r4, r5, r6, r7) := H
             have A91 := Aside0.mk A910
             clear A910
             by_cases c92 : t134 = 0
             ·rw [if_pos c92] at H
              have c92b0 : (t134 == 0) = true := beq_iff_eq.mpr c92
              have c92b1 : (t134 != 0) = false := bne_eq_false_iff_eq.mpr c92
              clear c92
              simp only [Option.some.injEq, Prod.mk.injEq] at H
              obtain ⟨rfl, rfl, rfl, rfl, rfl, rfl, rfl⟩ := H
              have ix93 : (x8_2 : Int) = 2 := (by first | (with_reducible assumption) | assumption | exact eq_of_beq bA | omega)
              have p93 : (0 ≤ (x8_2 : Int)) = True := eq_true (by omega)
              have q93 : ((x8_2 : Int) < 3) = True := eq_true (by omega)
              have t93 : (x8_2 : Int).toNat = 2 := (by omega)
              clear ix93
              have hnb94 := NB102_101.out
              have hnc94 := NB101_102.out
              have hcz95_0 : wc.cell? ⟨gb102, 0, none⟩ = some (.int .u64 x103000_2) := (blk_cell BK102.out 0).trans rfl
              have hcz95_1 : wc.cell? ⟨gb102, 1, none⟩ = some (.int .u64 x103001_2) := (blk_cell BK102.out 1).trans rfl
              have hcz95_2 : wc.cell? ⟨gb102, 2, none⟩ = some (.int .u64 x103002_2) := (blk_cell BK102.out 2).trans rfl
              have hfz95_0 := blk_frozen BK102.out 0
              have hfz95_1 := blk_frozen BK102.out 1
              have hfz95_2 := blk_frozen BK102.out 2
              go_wp2_with (first | ((with_reducible refine gate_callee (f := 60) rfl ?_); refine goesL_ (some 81) rfl rfl Tryd.func60 (by kernel_rfl) rfl #[.slice A0 l0.length c0, .int .i64 (wrap64 (x1_2 + t104)), .int .u8 45] rfl bM ?_; (with_reducible refine (semver_row.calls kj9 _ _ l0 (wrap64 (x1_2 + t104)) 45 t127 t128 t129 _ ?side1 ?side2 A89.out).mono ?_); (case side1 => exact Kd.C_below HR0.out bB); (case side2 => exact HC0.out); rintro e w96 ⟨v130, rfl, ho0, hb⟩; refine ⟨_, rfl, ?_⟩; have HO131 := aL ho0 HB; replace BK101 := Aside0.mk (blk_below (g := gb101) (o := .cells #[.int .u64 x102000_9, .int .u64 x102001_9, .int .u64 x102002_9, .slice none 0 0, .slice none 0 0] 40 (0, 0)) (aKf BK101) hb); replace BK102 := Aside0.mk (blk_below (g := gb102) (o := .cells #[.int .u64 x103000_2, .int .u64 x103001_2, .int .u64 t103] 67 (0, 0)) (by (with_reducible repeat (first | refine blk_drewN ?_ _ | refine blk_drew ?_ | refine blk_alloc ?_ _)); refine blk_put (cs := #[.int .u64 x103000_2, .int .u64 x103001_2, .int .u64 x103002_2]) ?_ 2 _ rfl; (with_reducible repeat (first | refine blk_drewN ?_ _ | refine blk_drew ?_ | refine blk_alloc ?_ _)); exact BK102.out) hb); replace HB := aB HB hb; (try clear hb); (try clear hb2); (try clear hk); (try clear hi); (try clear ho0)) | ((with_reducible refine gate_callee (f := 60) rfl ?_); refine goesL_ (some 93) rfl rfl Tryd.func60 (by kernel_rfl) rfl #[.slice A0 l0.length c0, .int .i64 t128, .int .u8 43] rfl bM ?_; (with_reducible refine (semver_row.calls kj9 _ _ l0 t128 43 t132 t133 t134 _ ?side1 ?side2 A91.out).mono ?_); (case side1 => exact sW (Kd.C_below HR0.out HB.out)); (case side2 => exact HC0.out); rintro e w97 ⟨v135, rfl, ho0, hb⟩; refine ⟨_, rfl, ?_⟩; have HO136 := aN ho0 HO131 HB; replace HO131 := aE HO131 ho0 hb; replace BK101 := aK BK101 hb; replace BK102 := aK BK102 hb; replace HB := aB HB hb; (try clear hb); (try clear hb2); (try clear hk); (try clear hi); (try clear ho0); have hcz98_0 : w97.cell? ⟨gb102, 0, none⟩ = some (.int .u64 x103000_2) := (blk_cell BK102.out 0).trans rfl; have hcz98_1 : w97.cell? ⟨gb102, 1, none⟩ = some (.int .u64 x103001_2) := (blk_cell BK102.out 1).trans rfl; have hcz98_2 : w97.cell? ⟨gb102, 2, none⟩ = some (.int .u64 t103) := (blk_cell BK102.out 2).trans rfl; have hfz98_0 := blk_frozen BK102.out 0; have hfz98_1 := blk_frozen BK102.out 1; have hfz98_2 := blk_frozen BK102.out 2; obtain ⟨Ao99, co99, eo99⟩ := Kd.R_slice HO136.out; subst eo99; obtain ⟨Ao100, co100, eo100⟩ := Kd.R_slice HO131.out; subst eo100; have hcz101_0 : w97.cell? ⟨gb101, 0, none⟩ = some (.int .u64 x102000_9) := (blk_cell BK101.out 0).trans rfl; have hcz101_1 : w97.cell? ⟨gb101, 1, none⟩ = some (.int .u64 x102001_9) := (blk_cell BK101.out 1).trans rfl; have hcz101_2 : w97.cell? ⟨gb101, 2, none⟩ = some (.int .u64 x102002_9) := (blk_cell BK101.out 2).trans rfl; have hcz101_3 : w97.cell? ⟨gb101, 3, none⟩ = some (.slice none 0 0) := (blk_cell BK101.out 3).trans rfl; have hcz101_4 : w97.cell? ⟨gb101, 4, none⟩ = some (.slice none 0 0) := (blk_cell BK101.out 4).trans rfl; have hfz101_0 := blk_frozen BK101.out 0; have hfz101_1 := blk_frozen BK101.out 1; have hfz101_2 := blk_frozen BK101.out 2; have hfz101_3 := blk_frozen BK101.out 3; have hfz101_4 := blk_frozen BK101.out 4))
              (try simp only [Exit.then, Exit.inBlock, Lab.gotos])
              refine bodyPost_ret (results_ctt rfl _ _ gb101 40 #[.int .u64 x103000_2, .int .u64 x103001_2, .int .u64 t103, .slice Ao100 t127.length co100, .slice Ao99 t132.length co99] (0, 0) _ rfl (by (with_reducible repeat (first | refine blk_drewN ?_ _ | refine blk_drew ?_ | refine blk_alloc ?_ _)); refine blk_put (cs := #[.int .u64 x103000_2, .int .u64 x103001_2, .int .u64 t103, .slice Ao100 t127.length co100, .slice none 0 0]) ?_ 4 _ rfl; (with_reducible repeat (first | refine blk_drewN ?_ _ | refine blk_drew ?_ | refine blk_alloc ?_ _)); refine blk_put (cs := #[.int .u64 x103000_2, .int .u64 x103001_2, .int .u64 t103, .slice none 0 0, .slice none 0 0]) ?_ 3 _ rfl; (with_reducible repeat (first | refine blk_drewN ?_ _ | refine blk_drew ?_ | refine blk_alloc ?_ _)); refine blk_put (cs := #[.int .u64 x103000_2, .int .u64 x103001_2, .int .u64 x102002_9, .slice none 0 0, .slice none 0 0]) ?_ 2 _ rfl; (with_reducible repeat (first | refine blk_drewN ?_ _ | refine blk_drew ?_ | refine blk_alloc ?_ _)); refine blk_put (cs := #[.int .u64 x103000_2, .int .u64 x102001_9, .int .u64 x102002_9, .slice none 0 0, .slice none 0 0]) ?_ 1 _ rfl; (with_reducible repeat (first | refine blk_drewN ?_ _ | refine blk_drew ?_ | refine blk_alloc ?_ _)); refine blk_put (cs := #[.int .u64 x102000_9, .int .u64 x102001_9, .int .u64 x102002_9, .slice none 0 0, .slice none 0 0]) ?_ 0 _ rfl; (with_reducible repeat (first | refine blk_drewN ?_ _ | refine blk_drew ?_ | refine blk_alloc ?_ _)); exact BK101.out) Tryd.underlying40 rfl (by kernel_rfl)) rfl ?_
              exact ⟨_, _, by first | rfl | (simp [errW_none, errW_some] <;> rfl) | (simp [*, errW_none, errW_some] <;> rfl), by (with_reducible repeat (first | apply Kd.R_alloc | apply Kd.R_drewN | apply Kd.R_drew)); exact Kd.R_mono (aG HO131 BK101) (fun _ hk => hk.1.2), by (with_reducible repeat (first | apply Kd.R_alloc | apply Kd.R_drewN | apply Kd.R_drew)); exact Kd.R_mono (aG HO136 BK101) (fun _ hk => hk.1.2), bB⟩
             ·rw [if_neg c92] at H
              have c92b0 : (t134 == 0) = false := beq_eq_false_iff_ne.mpr c92
              have c92b1 : (t134 != 0) = true := bne_iff_ne.mpr c92
              simp only [Option.some.injEq, Prod.mk.injEq] at H
              obtain ⟨rfl, rfl, rfl, rfl, rfl, rfl, rfl⟩ := H
              have ix102 : (x8_2 : Int) = 2 := (by first | (with_reducible assumption) | assumption | exact eq_of_beq bA | omega)
              have p102 : (0 ≤ (x8_2 : Int)) = True := eq_true (by omega)
              have q102 : ((x8_2 : Int) < 3) = True := eq_true (by omega)
              have t102 : (x8_2 : Int).toNat = 2 := (by omega)
              clear ix102
              have hnb103 := NB102_101.out
              have hnc103 := NB101_102.out
              have hcz104_0 : wc.cell? ⟨gb102, 0, none⟩ = some (.int .u64 x103000_2) := (blk_cell BK102.out 0).trans rfl
              have hcz104_1 : wc.cell? ⟨gb102, 1, none⟩ = some (.int .u64 x103001_2) := (blk_cell BK102.out 1).trans rfl
              have hcz104_2 : wc.cell? ⟨gb102, 2, none⟩ = some (.int .u64 x103002_2) := (blk_cell BK102.out 2).trans rfl
              have hfz104_0 := blk_frozen BK102.out 0
              have hfz104_1 := blk_frozen BK102.out 1
              have hfz104_2 := blk_frozen BK102.out 2
              go_wp2_with (first | ((with_reducible refine gate_callee (f := 60) rfl ?_); refine goesL_ (some 81) rfl rfl Tryd.func60 (by kernel_rfl) rfl #[.slice A0 l0.length c0, .int .i64 (wrap64 (x1_2 + t104)), .int .u8 45] rfl bM ?_; (with_reducible refine (semver_row.calls kj9 _ _ l0 (wrap64 (x1_2 + t104)) 45 t127 t128 t129 _ ?side1 ?side2 A89.out).mono ?_); (case side1 => exact Kd.C_below HR0.out bB); (case side2 => exact HC0.out); rintro e w105 ⟨v130, rfl, ho0, hb⟩; refine ⟨_, rfl, ?_⟩; have HO131 := aL ho0 HB; replace BK101 := Aside0.mk (blk_below (g := gb101) (o := .cells #[.int .u64 x102000_9, .int .u64 x102001_9, .int .u64 x102002_9, .slice none 0 0, .slice none 0 0] 40 (0, 0)) (aKf BK101) hb); replace BK102 := Aside0.mk (blk_below (g := gb102) (o := .cells #[.int .u64 x103000_2, .int .u64 x103001_2, .int .u64 t103] 67 (0, 0)) (by (with_reducible repeat (first | refine blk_drewN ?_ _ | refine blk_drew ?_ | refine blk_alloc ?_ _)); refine blk_put (cs := #[.int .u64 x103000_2, .int .u64 x103001_2, .int .u64 x103002_2]) ?_ 2 _ rfl; (with_reducible repeat (first | refine blk_drewN ?_ _ | refine blk_drew ?_ | refine blk_alloc ?_ _)); exact BK102.out) hb); replace HB := aB HB hb; (try clear hb); (try clear hb2); (try clear hk); (try clear hi); (try clear ho0)) | ((with_reducible refine gate_callee (f := 60) rfl ?_); refine goesL_ (some 93) rfl rfl Tryd.func60 (by kernel_rfl) rfl #[.slice A0 l0.length c0, .int .i64 t128, .int .u8 43] rfl bM ?_; (with_reducible refine (semver_row.calls kj9 _ _ l0 t128 43 t132 t133 t134 _ ?side1 ?side2 A91.out).mono ?_); (case side1 => exact sW (Kd.C_below HR0.out HB.out)); (case side2 => exact HC0.out); rintro e w106 ⟨v135, rfl, ho0, hb⟩; refine ⟨_, rfl, ?_⟩; have HO136 := aN ho0 HO131 HB; replace HO131 := aE HO131 ho0 hb; replace BK101 := aK BK101 hb; replace BK102 := aK BK102 hb; replace HB := aB HB hb; (try clear hb); (try clear hb2); (try clear hk); (try clear hi); (try clear ho0); have hcz107_0 : w106.cell? ⟨gb101, 0, none⟩ = some (.int .u64 x102000_9) := (blk_cell BK101.out 0).trans rfl; have hcz107_1 : w106.cell? ⟨gb101, 1, none⟩ = some (.int .u64 x102001_9) := (blk_cell BK101.out 1).trans rfl; have hcz107_2 : w106.cell? ⟨gb101, 2, none⟩ = some (.int .u64 x102002_9) := (blk_cell BK101.out 2).trans rfl; have hcz107_3 : w106.cell? ⟨gb101, 3, none⟩ = some (.slice none 0 0) := (blk_cell BK101.out 3).trans rfl; have hcz107_4 : w106.cell? ⟨gb101, 4, none⟩ = some (.slice none 0 0) := (blk_cell BK101.out 4).trans rfl; have hfz107_0 := blk_frozen BK101.out 0; have hfz107_1 := blk_frozen BK101.out 1; have hfz107_2 := blk_frozen BK101.out 2; have hfz107_3 := blk_frozen BK101.out 3; have hfz107_4 := blk_frozen BK101.out 4))
              (try simp only [Exit.then, Exit.inBlock, Lab.gotos])
              refine bodyPost_ret (results_ctt rfl _ _ gb101 40 #[.int .u64 x102000_9, .int .u64 x102001_9, .int .u64 x102002_9, .slice none 0 0, .slice none 0 0] (0, 0) _ rfl (by (with_reducible repeat (first | refine blk_drewN ?_ _ | refine blk_drew ?_ | refine blk_alloc ?_ _)); refine blk_put (cs := #[.int .u64 x102000_9, .int .u64 x102001_9, .int .u64 x102002_9, .slice none 0 0, .slice none 0 0]) ?_ 4 _ rfl; (with_reducible repeat (first | refine blk_drewN ?_ _ | refine blk_drew ?_ | refine blk_alloc ?_ _)); refine blk_put (cs := #[.int .u64 x102000_9, .int .u64 x102001_9, .int .u64 x102002_9, .slice none 0 0, .slice none 0 0]) ?_ 3 _ rfl; (with_reducible repeat (first | refine blk_drewN ?_ _ | refine blk_drew ?_ | refine blk_alloc ?_ _)); refine blk_put (cs := #[.int .u64 x102000_9, .int .u64 x102001_9, .int .u64 x102002_9, .slice none 0 0, .slice none 0 0]) ?_ 2 _ rfl; (with_reducible repeat (first | refine blk_drewN ?_ _ | refine blk_drew ?_ | refine blk_alloc ?_ _)); refine blk_put (cs := #[.int .u64 x102000_9, .int .u64 x102001_9, .int .u64 x102002_9, .slice none 0 0, .slice none 0 0]) ?_ 1 _ rfl; (with_reducible repeat (first | refine blk_drewN ?_ _ | refine blk_drew ?_ | refine blk_alloc ?_ _)); refine blk_put (cs := #[.int .u64 x102000_9, .int .u64 x102001_9, .int .u64 x102002_9, .slice none 0 0, .slice none 0 0]) ?_ 0 _ rfl; (with_reducible repeat (first | refine blk_drewN ?_ _ | refine blk_drew ?_ | refine blk_alloc ?_ _)); exact BK101.out) Tryd.underlying40 rfl (by kernel_rfl)) rfl ?_
              exact ⟨_, _, by first | rfl | (simp [errW_none, errW_some] <;> rfl) | (simp [*, errW_none, errW_some] <;> rfl), by first | exact Kd.R_nil _ _ _ _ _ | exact Kd.N_nil _ _ _ _ _ | exact Kd.V_nil _ _ _ _ _ | exact Kd.Q_nil _ _ _ _ _ | exact Kd.S_nil _ _ _ _ _, by first | exact Kd.R_nil _ _ _ _ _ | exact Kd.N_nil _ _ _ _ _ | exact Kd.V_nil _ _ _ _ _ | exact Kd.Q_nil _ _ _ _ _ | exact Kd.S_nil _ _ _ _ _, bB⟩
            ·rw [if_neg c90] at H
             have c90b0 : (t129 == 0) = false := beq_eq_false_iff_ne.mpr c90
             have c90b1 : (t129 != 0) = true := bne_iff_ne.mpr c90
             simp only [Option.some.injEq, Prod.mk.injEq] at H
             obtain ⟨rfl, rfl, rfl, rfl, rfl, rfl, rfl⟩ := H
             have ix108 : (x8_2 : Int) = 2 := (by first | (with_reducible assumption) | assumption | exact eq_of_beq bA | omega)
             have p108 : (0 ≤ (x8_2 : Int)) = True := eq_true (by omega)
             have q108 : ((x8_2 : Int) < 3) = True := eq_true (by omega)
             have t108 : (x8_2 : Int).toNat = 2 := (by omega)
             clear ix108
             have hnb109 := NB102_101.out
             have hnc109 := NB101_102.out
             have hcz110_0 : wc.cell? ⟨gb102, 0, none⟩ = some (.int .u64 x103000_2) := (blk_cell BK102.out 0).trans rfl
             have hcz110_1 : wc.cell? ⟨gb102, 1, none⟩ = some (.int .u64 x103001_2) := (blk_cell BK102.out 1).trans rfl
             have hcz110_2 : wc.cell? ⟨gb102, 2, none⟩ = some (.int .u64 x103002_2) := (blk_cell BK102.out 2).trans rfl
             have hfz110_0 := blk_frozen BK102.out 0
             have hfz110_1 := blk_frozen BK102.out 1
             have hfz110_2 := blk_frozen BK102.out 2
             go_wp2_with (first | ((with_reducible refine gate_callee (f := 60) rfl ?_); refine goesL_ (some 81) rfl rfl Tryd.func60 (by kernel_rfl) rfl #[.slice A0 l0.length c0, .int .i64 (wrap64 (x1_2 + t104)), .int .u8 45] rfl bM ?_; (with_reducible refine (semver_row.calls kj9 _ _ l0 (wrap64 (x1_2 + t104)) 45 t127 t128 t129 _ ?side1 ?side2 A89.out).mono ?_); (case side1 => exact Kd.C_below HR0.out bB); (case side2 => exact HC0.out); rintro e w111 ⟨v130, rfl, ho0, hb⟩; refine ⟨_, rfl, ?_⟩; have HO131 := aL ho0 HB; replace BK101 := Aside0.mk (blk_below (g := gb101) (o := .cells #[.int .u64 x102000_9, .int .u64 x102001_9, .int .u64 x102002_9, .slice none 0 0, .slice none 0 0] 40 (0, 0)) (aKf BK101) hb); replace BK102 := Aside0.mk (blk_below (g := gb102) (o := .cells #[.int .u64 x103000_2, .int .u64 x103001_2, .int .u64 t103] 67 (0, 0)) (by (with_reducible repeat (first | refine blk_drewN ?_ _ | refine blk_drew ?_ | refine blk_alloc ?_ _)); refine blk_put (cs := #[.int .u64 x103000_2, .int .u64 x103001_2, .int .u64 x103002_2]) ?_ 2 _ rfl; (with_reducible repeat (first | refine blk_drewN ?_ _ | refine blk_drew ?_ | refine blk_alloc ?_ _)); exact BK102.out) hb); replace HB := aB HB hb; (try clear hb); (try clear hb2); (try clear hk); (try clear hi); (try clear ho0); have hcz112_0 : w111.cell? ⟨gb101, 0, none⟩ = some (.int .u64 x102000_9) := (blk_cell BK101.out 0).trans rfl; have hcz112_1 : w111.cell? ⟨gb101, 1, none⟩ = some (.int .u64 x102001_9) := (blk_cell BK101.out 1).trans rfl; have hcz112_2 : w111.cell? ⟨gb101, 2, none⟩ = some (.int .u64 x102002_9) := (blk_cell BK101.out 2).trans rfl; have hcz112_3 : w111.cell? ⟨gb101, 3, none⟩ = some (.slice none 0 0) := (blk_cell BK101.out 3).trans rfl; have hcz112_4 : w111.cell? ⟨gb101, 4, none⟩ = some (.slice none 0 0) := (blk_cell BK101.out 4).trans rfl; have hfz112_0 := blk_frozen BK101.out 0; have hfz112_1 := blk_frozen BK101.out 1; have hfz112_2 := blk_frozen BK101.out 2; have hfz112_3 := blk_frozen BK101.out 3; have hfz112_4 := blk_frozen BK101.out 4))
             (try simp only [Exit.then, Exit.inBlock, Lab.gotos])
             refine bodyPost_ret (results_ctt rfl _ _ gb101 40 #[.int .u64 x102000_9, .int .u64 x102001_9, .int .u64 x102002_9, .slice none 0 0, .slice none 0 0] (0, 0) _ rfl (by (with_reducible repeat (first | refine blk_drewN ?_ _ | refine blk_drew ?_ | refine blk_alloc ?_ _)); refine blk_put (cs := #[.int .u64 x102000_9, .int .u64 x102001_9, .int .u64 x102002_9, .slice none 0 0, .slice none 0 0]) ?_ 4 _ rfl; (with_reducible repeat (first | refine blk_drewN ?_ _ | refine blk_drew ?_ | refine blk_alloc ?_ _)); refine blk_put (cs := #[.int .u64 x102000_9, .int .u64 x102001_9, .int .u64 x102002_9, .slice none 0 0, .slice none 0 0]) ?_ 3 _ rfl; (with_reducible repeat (first | refine blk_drewN ?_ _ | refine blk_drew ?_ | refine blk_alloc ?_ _)); refine blk_put (cs := #[.int .u64 x102000_9, .int .u64 x102001_9, .int .u64 x102002_9, .slice none 0 0, .slice none 0 0]) ?_ 2 _ rfl; (with_reducible repeat (first | refine blk_drewN ?_ _ | refine blk_drew ?_ | refine blk_alloc ?_ _)); refine blk_put (cs := #[.int .u64 x102000_9, .int .u64 x102001_9, .int .u64 x102002_9, .slice none 0 0, .slice none 0 0]) ?_ 1 _ rfl; (with_reducible repeat (first | refine blk_drewN ?_ _ | refine blk_drew ?_ | refine blk_alloc ?_ _)); refine blk_put (cs := #[.int .u64 x102000_9, .int .u64 x102001_9, .int .u64 x102002_9, .slice none 0 0, .slice none 0 0]) ?_ 0 _ rfl; (with_reducible repeat (first | refine blk_drewN ?_ _ | refine blk_drew ?_ | refine blk_alloc ?_ _)); exact BK101.out) Tryd.underlying40 rfl (by kernel_rfl)) rfl ?_
             exact ⟨_, _, by first | rfl | (simp [errW_none, errW_some] <;> rfl) | (simp [*, errW_none, errW_some] <;> rfl), by first | exact Kd.R_nil _ _ _ _ _ | exact Kd.N_nil _ _ _ _ _ | exact Kd.V_nil _ _ _ _ _ | exact Kd.Q_nil _ _ _ _ _ | exact Kd.S_nil _ _ _ _ _, by first | exact Kd.R_nil _ _ _ _ _ | exact Kd.N_nil _ _ _ _ _ | exact Kd.V_nil _ _ _ _ _ | exact Kd.Q_nil _ _ _ _ _ | exact Kd.S_nil _ _ _ _ _, bB⟩
          ·rw [if_neg c84] at H
           exact absurd H (by simp)

end Go.Proofs.YtildmfegfkiknaaDoor.X
