-- Written by a program of this session (wip/xp), out of the translation. Not trusted: Lean checks it.
import Derived.Test.YtaocceijkiiciaaX0
import Derived.Test.YtaocceijkiiciaaXn9
import Derived.Test.YtaocceijkiiciaaXn18
import Derived.Test.YtaocceijkiiciaaXn8
import Derived.Test.YtaocceijkiiciaaXn10
import Derived.Test.YtaocceijkiiciaaXn14
import Derived.Test.YtaocceijkiiciaaXn15
import Derived.Test.YtaocceijkiiciaaXn16
import Derived.Test.YtaocceijkiiciaaXn17
-- shrunk
namespace Go.Proofs.Ytaocceijkiiciaa.X
open Go.RowKit Go.Proofs.YtaocceijkiiciaaW.PrintWords Go.Proofs.YtaocceijkiiciaaW.PrintLast Go.Proofs.YtaocceijkiiciaaW.PrintMore
attribute [local go_sem] Lab.str_gtr Lab.str_leq Lab.str_geq max2_int min2_int max_two min_two max_three min_three max_four min_four   -- for this text's walks alone
set_option linter.unusedVariables false
set_option linter.unusedSimpArgs false

/-! ### ferrulelaw20_HintAts: function 6 -/
mutual
def ferrulelaw20_HintAts.j0 : Nat → Int → Int → Int → Bool → Bool → List Int → List Bool → List Int → List Int → Int → Option (Bool)
 | 0, _, _, _, _, _, _, _, _, _, _ => none
 | k + 1, x1, x2, x7, x8, x25, x102000, x102001, x102002, x102003, x102004 => if x25 = true then (if (x102001.length : Int) = 0 then (none) else (if 0 ≤ (Int.tmod x1 (x102001.length : Int)) then (if (Int.tmod x1 (x102001.length : Int)) < (x102001.length : Int) then (ferrulelaw20_HintAts.j1 k x1 x2 x7 (rdOf false x102001 (Int.tmod x1 (x102001.length : Int))) x102000 x102001 x102002 x102003 x102004) else (none)) else (none))) else (ferrulelaw20_HintAts.j1 k x1 x2 x7 x8 x102000 x102001 x102002 x102003 x102004)
def ferrulelaw20_HintAts.j1 : Nat → Int → Int → Int → Bool → List Int → List Bool → List Int → List Int → Int → Option (Bool)
 | 0, _, _, _, _, _, _, _, _, _ => none
 | k + 1, x1, x2, x7, x8, x102000, x102001, x102002, x102003, x102004 => (hint_Good.f k x102000 x102001 x102002 x102003 x102004).bind fun t106 => ((ferruleref20_Good.f k x102000 x102001 x102002 x102003 x102004).bind fun t107 => (if (t106 == t107) = true then ((hint_At.f x102000 x1).bind fun t108 => (if t108 = x7 then ((hint_Due.f x102000 x1 x2).bind fun t109 => (if x1 < (x102000.length : Int) then (if x7 > 0 then (if (t109 == (decide (x2 ≥ x7))) = true then ((hint_Sign.f x102001 x1).bind fun t110 => (some (t110 == x8))) else (some false)) else (if (t109 == false) = true then ((hint_Sign.f x102001 x1).bind fun t111 => (some (t111 == x8))) else (some false))) else (if (t109 == false) = true then ((hint_Sign.f x102001 x1).bind fun t112 => (some (t112 == x8))) else (some false)))) else (some false))) else (some false)))
end
def ferrulelaw20_HintAts.f (k : Nat) (l0_0 : List Int) (l0_1 : List Bool) (l0_2 : List Int) (l0_3 : List Int) (a0_4 : Int) (a1 : Int) (a2 : Int) : Option (Bool) := (ferrulelaw20_awake.f).bind fun t102 => (if t102 = true then ((ferrulelaw20_few.f l0_0 l0_1 l0_2 l0_3 a0_4).bind fun t103 => (if t103 = true then ((ferruleref20_At.f k l0_0 a1).bind fun t104 => (if a1 ≥ 0 then (ferrulelaw20_HintAts.j0 k a1 a2 t104 false (decide ((l0_1.length : Int) > 0)) l0_0 l0_1 l0_2 l0_3 a0_4) else (ferrulelaw20_HintAts.j0 k a1 a2 t104 false false l0_0 l0_1 l0_2 l0_3 a0_4))) else (some true))) else (some false))
theorem ferrulelaw20_HintAts.mono_l : ∀ k, (∀ y0 y1 y2 y3 y4 y5 y6 y7 y8 y9, LeO (ferrulelaw20_HintAts.j0 k y0 y1 y2 y3 y4 y5 y6 y7 y8 y9) (ferrulelaw20_HintAts.j0 (k + 1) y0 y1 y2 y3 y4 y5 y6 y7 y8 y9)) ∧ (∀ y0 y1 y2 y3 y4 y5 y6 y7 y8, LeO (ferrulelaw20_HintAts.j1 k y0 y1 y2 y3 y4 y5 y6 y7 y8) (ferrulelaw20_HintAts.j1 (k + 1) y0 y1 y2 y3 y4 y5 y6 y7 y8))
 | 0 => ⟨fun _ _ _ _ _ _ _ _ _ _ r h => by simp [ferrulelaw20_HintAts.j0] at h, fun _ _ _ _ _ _ _ _ _ r h => by simp [ferrulelaw20_HintAts.j1] at h⟩
 | k + 1 => by
  obtain ⟨ih0, ih1⟩ := ferrulelaw20_HintAts.mono_l k
  refine ⟨?_, ?_⟩
  ·intro y0 y1 y2 y3 y4 y5 y6 y7 y8 y9
   unfold ferrulelaw20_HintAts.j0
   repeat' first
   | (with_reducible exact ih0 _ _ _ _ _ _ _ _ _ _)
   | (with_reducible exact ih1 _ _ _ _ _ _ _ _ _)
   | (with_reducible exact ferruleref20_At.mono _ _ _)
   | (with_reducible exact ferruleref20_Good.mono _ _ _ _ _ _)
   | (with_reducible exact hint_Good.mono _ _ _ _ _ _)
   | (with_reducible exact LeO.refl _)
   | (with_reducible exact LeO.none _)
   | (with_reducible refine LeO.ite ?_ ?_)
   | (with_reducible refine LeO.bind ?_ (fun _ => ?_))
   | exact ih0 _ _ _ _ _ _ _ _ _ _
   | exact ih1 _ _ _ _ _ _ _ _ _
   | exact ferruleref20_At.mono _ _ _
   | exact ferruleref20_Good.mono _ _ _ _ _ _
   | exact hint_Good.mono _ _ _ _ _ _
   | exact LeO.none _
   | refine LeO.ite ?_ ?_
   | refine LeO.bind ?_ (fun _ => ?_)
  ·intro y0 y1 y2 y3 y4 y5 y6 y7 y8
   unfold ferrulelaw20_HintAts.j1
   repeat' first
   | (with_reducible exact ih0 _ _ _ _ _ _ _ _ _ _)
   | (with_reducible exact ih1 _ _ _ _ _ _ _ _ _)
   | (with_reducible exact ferruleref20_At.mono _ _ _)
   | (with_reducible exact ferruleref20_Good.mono _ _ _ _ _ _)
   | (with_reducible exact hint_Good.mono _ _ _ _ _ _)
   | (with_reducible exact LeO.refl _)
   | (with_reducible exact LeO.none _)
   | (with_reducible refine LeO.ite ?_ ?_)
   | (with_reducible refine LeO.bind ?_ (fun _ => ?_))
   | exact ih0 _ _ _ _ _ _ _ _ _ _
   | exact ih1 _ _ _ _ _ _ _ _ _
   | exact ferruleref20_At.mono _ _ _
   | exact ferruleref20_Good.mono _ _ _ _ _ _
   | exact hint_Good.mono _ _ _ _ _ _
   | exact LeO.none _
   | refine LeO.ite ?_ ?_
   | refine LeO.bind ?_ (fun _ => ?_)
theorem ferrulelaw20_HintAts.mono : ∀ a0 a1 a2 a3 a4 a5 a6 k, LeO (ferrulelaw20_HintAts.f k a0 a1 a2 a3 a4 a5 a6) (ferrulelaw20_HintAts.f (k + 1) a0 a1 a2 a3 a4 a5 a6) := by
 intro a0 a1 a2 a3 a4 a5 a6 k
 obtain ⟨ih0, ih1⟩ := ferrulelaw20_HintAts.mono_l k
 unfold ferrulelaw20_HintAts.f
 repeat' first
   | (with_reducible exact ih0 _ _ _ _ _ _ _ _ _ _)
   | (with_reducible exact ih1 _ _ _ _ _ _ _ _ _)
   | (with_reducible exact ferruleref20_At.mono _ _ _)
   | (with_reducible exact ferruleref20_Good.mono _ _ _ _ _ _)
   | (with_reducible exact hint_Good.mono _ _ _ _ _ _)
   | (with_reducible exact LeO.refl _)
   | (with_reducible exact LeO.none _)
   | (with_reducible refine LeO.ite ?_ ?_)
   | (with_reducible refine LeO.bind ?_ (fun _ => ?_))
   | exact ih0 _ _ _ _ _ _ _ _ _ _
   | exact ih1 _ _ _ _ _ _ _ _ _
   | exact ferruleref20_At.mono _ _ _
   | exact ferruleref20_Good.mono _ _ _ _ _ _
   | exact hint_Good.mono _ _ _ _ _ _
   | exact LeO.none _
   | refine LeO.ite ?_ ?_
   | refine LeO.bind ?_ (fun _ => ?_)
def ferrulelaw20_HintAts.T8 : Bool × List (List Nat × List Nat) := (true, [([], []), ([0], [0]), ([], []), ([], []), ([3], [3]), ([4], [4]), ([2, 5], [2, 5]), ([1, 6], [1, 6]), ([7], [7]), ([8, 0, 1, 2, 3, 4, 5, 6, 7, 8], [8])])
def ferrulelaw20_HintAts.B8 : List Nat := [0, 1, 0, 0, 8, 24, 60, 127, 255, 511]
theorem ferrulelaw20_HintAts.tab8 : rtab .any (opsOf Try.f6 8) = ferrulelaw20_HintAts.T8 := by kernel_rfl
theorem ferrulelaw20_HintAts.bits8 : waitsOk ferrulelaw20_HintAts.T8.2 ferrulelaw20_HintAts.B8 = true := by kernel_rfl
def ferrulelaw20_HintAts.T9 : Bool × List (List Nat × List Nat) := (true, [([], []), ([0], [0]), ([], []), ([2, 1], [2]), ([1, 3], [1, 3]), ([4, 3], [4]), ([5], [5]), ([6, 5], [5, 6]), ([5], [5]), ([7, 8, 5, 5], [5, 7, 8]), ([5], [5]), ([9, 10, 5], [5, 9, 10]), ([5, 11], [5, 11]), ([12, 9], [12]), ([13], [13]), ([14, 13], [13, 14]), ([13], [13]), ([13], [13]), ([15, 16, 17, 13, 13], [13, 15, 16, 17]), ([13], [13]), ([13], [13]), ([20, 13], [13, 20]), ([21, 13], [13, 21]), ([19, 22, 13], [13, 19, 22]), ([23, 18, 13], [13, 23]), ([24], [24]), ([25, 24], [24, 25]), ([24, 26, 13], [13, 24, 26]), ([27, 24, 13], [13, 27]), ([28], [28]), ([28], [28]), ([29, 30, 28], [28, 29, 30]), ([28, 31, 13], [13, 28, 31]), ([18, 32, 13], [13, 18, 32]), ([13, 33], [13, 33]), ([34, 28], [34]), ([35], [35]), ([36, 35], [35, 36]), ([35], [35]), ([37, 38, 35, 35], [35, 37, 38]), ([35], [35]), ([39, 40, 35], [35, 39, 40]), ([35, 41], [35, 41]), ([42, 39, 0, 1, 2, 3, 4, 5, 6, 7, 8, 9, 10, 11, 12, 13, 14, 15, 16, 17, 18, 19, 20, 21, 22, 23, 24, 25, 26, 27, 28, 29, 30, 31, 32, 33, 34, 35, 36, 37, 38, 39, 40, 41, 42], [42])])
def ferrulelaw20_HintAts.B9 : List Nat := [0, 1, 0, 7, 15, 31, 63, 127, 63, 511, 63, 2047, 4095, 8191, 16383, 32767, 16383, 16383, 262143, 16383, 16383, 1064959, 3162111, 7880703, 16777215, 33554431, 67108863, 134217727, 268435455, 536870911, 536870911, 2147483647, 4294967295, 8589934591, 17179869183, 34359738367, 68719476735, 137438953471, 68719476735, 549755813887, 68719476735, 2199023255551, 4398046511103, 8796093022207]
theorem ferrulelaw20_HintAts.tab9 : rtab .any (opsOf Try.f6 9) = ferrulelaw20_HintAts.T9 := by kernel_rfl
theorem ferrulelaw20_HintAts.bits9 : waitsOk ferrulelaw20_HintAts.T9.2 ferrulelaw20_HintAts.B9 = true := by kernel_rfl
set_option maxHeartbeats 8000000 in
set_option maxRecDepth 100000 in
theorem ferrulelaw20_HintAts.calls (k : Nat) (A0_0 : Option Addr) (c0_0 : Nat) (l0_0 : List Int) (A0_1 : Option Addr) (c0_1 : Nat) (l0_1 : List Bool) (A0_2 : Option Addr) (c0_2 : Nat) (l0_2 : List Int) (A0_3 : Option Addr) (c0_3 : Nat) (l0_3 : List Int) (a0_4 : Int) (a1 : Int) (a2 : Int) (r : Bool) (w : World) (hr0_0 : Kd.C (Kd.int .i64) w A0_0 l0_0.length l0_0) (hc0_0 : l0_0.length ≤ c0_0) (hr0_1 : Kd.C Kd.bool w A0_1 l0_1.length l0_1) (hc0_1 : l0_1.length ≤ c0_1) (hr0_2 : Kd.C (Kd.int .i64) w A0_2 l0_2.length l0_2) (hc0_2 : l0_2.length ≤ c0_2) (hr0_3 : Kd.C (Kd.int .i64) w A0_3 l0_3.length l0_3) (hc0_3 : l0_3.length ≤ c0_3) (h : ferrulelaw20_HintAts.f k l0_0 l0_1 l0_2 l0_3 a0_4 a1 a2 = some r) :
  Calls Try.prog 6 #[.agg #[.slice A0_0 l0_0.length c0_0, .slice A0_1 l0_1.length c0_1, .slice A0_2 l0_2.length c0_2, .slice A0_3 l0_3.length c0_3, .int .i64 a0_4], .int .i64 a1, .int .i64 a2] w fun e w' => e = .returned (.bool r) ∧ Below w.heap.size w w' := by
 have hu40 := Try.underlying40
 have HR0_0 := Aside0.mk hr0_0
 have HC0_0 := Aside0.mk hc0_0
 clear hr0_0 hc0_0
 have HR0_1 := Aside0.mk hr0_1
 have HC0_1 := Aside0.mk hc0_1
 clear hr0_1 hc0_1
 have HR0_2 := Aside0.mk hr0_2
 have HC0_2 := Aside0.mk hc0_2
 clear hr0_2 hc0_2
 have HR0_3 := Aside0.mk hr0_3
 have HC0_3 := Aside0.mk hc0_3
 clear hr0_3 hc0_3
 have HB := Aside0.mk (Below.refl w.heap.size w)
 have H : ((ferrulelaw20_awake.f).bind fun t102 => (if t102 = true then ((ferrulelaw20_few.f l0_0 l0_1 l0_2 l0_3 a0_4).bind fun t103 => (if t103 = true then ((ferruleref20_At.f k l0_0 a1).bind fun t104 => (if a1 ≥ 0 then (ferrulelaw20_HintAts.j0 k a1 a2 t104 false (decide ((l0_1.length : Int) > 0)) l0_0 l0_1 l0_2 l0_3 a0_4) else (ferrulelaw20_HintAts.j0 k a1 a2 t104 false false l0_0 l0_1 l0_2 l0_3 a0_4))) else (some true))) else (some false))) = some r := h
 clear h
 replace H := Option.bind_eq_some_iff.mp H
 obtain ⟨t102, A40, H⟩ := H
 replace H : (if t102 = true then ((ferrulelaw20_few.f l0_0 l0_1 l0_2 l0_3 a0_4).bind fun t103 => (if t103 = true then ((ferruleref20_At.f k l0_0 a1).bind fun t104 => (if a1 ≥ 0 then (ferrulelaw20_HintAts.j0 k a1 a2 t104 false (decide ((l0_1.length : Int) > 0)) l0_0 l0_1 l0_2 l0_3 a0_4) else (ferrulelaw20_HintAts.j0 k a1 a2 t104 false false l0_0 l0_1 l0_2 l0_3 a0_4))) else (some true))) else (some false)) = some r := H
 have A4 := Aside0.mk A40
 clear A40
 by_cases c5 : t102 = true
 ·subst c5
  have H1 : ((ferrulelaw20_few.f l0_0 l0_1 l0_2 l0_3 a0_4).bind fun t103 => (if t103 = true then ((ferruleref20_At.f k l0_0 a1).bind fun t104 => (if a1 ≥ 0 then (ferrulelaw20_HintAts.j0 k a1 a2 t104 false (decide ((l0_1.length : Int) > 0)) l0_0 l0_1 l0_2 l0_3 a0_4) else (ferrulelaw20_HintAts.j0 k a1 a2 t104 false false l0_0 l0_1 l0_2 l0_3 a0_4))) else (some true))) = some r := by rw [if_pos rfl] at H; exact H
  clear H
  have H := H1
  clear H1
  replace H := Option.bind_eq_some_iff.mp H
  obtain ⟨t103, A60, H⟩ := H
  replace H : (if t103 = true then ((ferruleref20_At.f k l0_0 a1).bind fun t104 => (if a1 ≥ 0 then (ferrulelaw20_HintAts.j0 k a1 a2 t104 false (decide ((l0_1.length : Int) > 0)) l0_0 l0_1 l0_2 l0_3 a0_4) else (ferrulelaw20_HintAts.j0 k a1 a2 t104 false false l0_0 l0_1 l0_2 l0_3 a0_4))) else (some true)) = some r := H
  have A6 := Aside0.mk A60
  clear A60
  by_cases c7 : t103 = true
  ·subst c7
   have H1 : ((ferruleref20_At.f k l0_0 a1).bind fun t104 => (if a1 ≥ 0 then (ferrulelaw20_HintAts.j0 k a1 a2 t104 false (decide ((l0_1.length : Int) > 0)) l0_0 l0_1 l0_2 l0_3 a0_4) else (ferrulelaw20_HintAts.j0 k a1 a2 t104 false false l0_0 l0_1 l0_2 l0_3 a0_4))) = some r := by rw [if_pos rfl] at H; exact H
   clear H
   have H := H1
   clear H1
   replace H := Option.bind_eq_some_iff.mp H
   obtain ⟨t104, A80, H⟩ := H
   replace H : (if a1 ≥ 0 then (ferrulelaw20_HintAts.j0 k a1 a2 t104 false (decide ((l0_1.length : Int) > 0)) l0_0 l0_1 l0_2 l0_3 a0_4) else (ferrulelaw20_HintAts.j0 k a1 a2 t104 false false l0_0 l0_1 l0_2 l0_3 a0_4)) = some r := H
   have A8 := Aside0.mk A80
   clear A80
   have HC9 := Aside0.mk H
   clear H
   go_enter Try.func6, Try.ntmps6
   go_upto_region 7 with (first | ((with_reducible refine gate_dst (N := 3) rfl ?_); (try (refine gate_guard (by rfl) ?_; dsimp only)); refine box_event ?hg (N := 3) ?hd (cs := #[.slice A0_0 l0_0.length c0_0, .slice A0_1 l0_1.length c0_1, .slice A0_2 l0_2.length c0_2, .slice A0_3 l0_3.length c0_3, .int .i64 a0_4]) (t := 40) ?hr ?_; (case hd => rfl); (case hg => rfl); (case hr => first | (go_simp; done) | (go_simp; rfl)); intro gb101 hg w10 hbox hb; have BK101 := Aside0.mk hbox; have GW101 := Aside0.mk ((by rw [hg]; exact (below_size bB) : w.heap.size ≤ gb101)); have GE101 := Aside0.mk ((by rw [hg]; exact (below_size bB) : w.heap.size ≤ gb101)); replace HB := aB HB hb; clear hb hbox hg) | ((with_reducible refine gate_callee (f := 8) rfl ?_); refine goesL_ (some 9) rfl rfl Try.func8 (by kernel_rfl) rfl #[] rfl bM ?_; (with_reducible refine (ferrulelaw20_awake.calls  true _ A4.out).mono ?_); rintro e w11 ⟨rfl, hb⟩; refine ⟨_, rfl, ?_⟩; replace BK101 := aK BK101 hb; replace HB := aB HB hb; (try clear hb); (try clear hb2); (try clear hk); (try clear hi); have hcz12_0 : w11.cell? ⟨gb101, 0, none⟩ = some (.slice A0_0 l0_0.length c0_0) := (blk_cell BK101.out 0).trans rfl; have hcz12_1 : w11.cell? ⟨gb101, 1, none⟩ = some (.slice A0_1 l0_1.length c0_1) := (blk_cell BK101.out 1).trans rfl; have hcz12_2 : w11.cell? ⟨gb101, 2, none⟩ = some (.slice A0_2 l0_2.length c0_2) := (blk_cell BK101.out 2).trans rfl; have hcz12_3 : w11.cell? ⟨gb101, 3, none⟩ = some (.slice A0_3 l0_3.length c0_3) := (blk_cell BK101.out 3).trans rfl; have hcz12_4 : w11.cell? ⟨gb101, 4, none⟩ = some (.int .i64 a0_4) := (blk_cell BK101.out 4).trans rfl; have hfz12_0 := blk_frozen BK101.out 0; have hfz12_1 := blk_frozen BK101.out 1; have hfz12_2 := blk_frozen BK101.out 2; have hfz12_3 := blk_frozen BK101.out 3; have hfz12_4 := blk_frozen BK101.out 4) | ((with_reducible refine gate_callee (f := 14) rfl ?_); refine goesL_ (some 12) rfl rfl Try.func14 (by kernel_rfl) rfl #[.agg #[.slice A0_0 l0_0.length c0_0, .slice A0_1 l0_1.length c0_1, .slice A0_2 l0_2.length c0_2, .slice A0_3 l0_3.length c0_3, .int .i64 a0_4]] rfl bM ?_; (with_reducible refine (ferrulelaw20_few.calls _ _ l0_0 _ _ l0_1 _ _ l0_2 _ _ l0_3 a0_4 true _ ?side1 ?side2 ?side3 ?side4 ?side5 ?side6 ?side7 ?side8 A6.out).mono ?_); (case side1 => exact sW (Kd.C_below HR0_0.out HB.out)); (case side2 => exact HC0_0.out); (case side3 => exact sW (Kd.C_below HR0_1.out HB.out)); (case side4 => exact HC0_1.out); (case side5 => exact sW (Kd.C_below HR0_2.out HB.out)); (case side6 => exact HC0_2.out); (case side7 => exact sW (Kd.C_below HR0_3.out HB.out)); (case side8 => exact HC0_3.out); rintro e w13 ⟨rfl, hb⟩; refine ⟨_, rfl, ?_⟩; replace BK101 := aK BK101 hb; replace HB := aB HB hb; (try clear hb); (try clear hb2); (try clear hk); (try clear hi); have hcz14_0 : w13.cell? ⟨gb101, 0, none⟩ = some (.slice A0_0 l0_0.length c0_0) := (blk_cell BK101.out 0).trans rfl; have hcz14_1 : w13.cell? ⟨gb101, 1, none⟩ = some (.slice A0_1 l0_1.length c0_1) := (blk_cell BK101.out 1).trans rfl; have hcz14_2 : w13.cell? ⟨gb101, 2, none⟩ = some (.slice A0_2 l0_2.length c0_2) := (blk_cell BK101.out 2).trans rfl; have hcz14_3 : w13.cell? ⟨gb101, 3, none⟩ = some (.slice A0_3 l0_3.length c0_3) := (blk_cell BK101.out 3).trans rfl; have hcz14_4 : w13.cell? ⟨gb101, 4, none⟩ = some (.int .i64 a0_4) := (blk_cell BK101.out 4).trans rfl; have hfz14_0 := blk_frozen BK101.out 0; have hfz14_1 := blk_frozen BK101.out 1; have hfz14_2 := blk_frozen BK101.out 2; have hfz14_3 := blk_frozen BK101.out 3; have hfz14_4 := blk_frozen BK101.out 4) | ((with_reducible refine gate_callee (f := 15) rfl ?_); refine goesL_ (some 17) rfl rfl Try.func15 (by kernel_rfl) rfl #[.slice A0_0 l0_0.length c0_0, .int .i64 a1] rfl bM ?_; (with_reducible refine (ferruleref20_At.calls k _ _ l0_0 a1 t104 _ ?side1 ?side2 A8.out).mono ?_); (case side1 => exact sW (Kd.C_below HR0_0.out HB.out)); (case side2 => exact HC0_0.out); rintro e w' ⟨rfl, ⟨nd, rfl⟩⟩; refine ⟨_, rfl, ?_⟩))
   (try simp only [Act.put, List.setIfInBounds_toArray, List.set_cons_zero, List.set_cons_succ])
   go_cut [25] (fun v25 wc => ∃ (kq : Nat) (x25_8 : Bool), v25 = .bool x25_8 ∧ Aside0 (ferrulelaw20_HintAts.j0 kq a1 a2 t104 false x25_8 l0_0 l0_1 l0_2 l0_3 a0_4 = some r) ∧ Aside0 (kq ≤ k) ∧ Aside0 (wc.heap[gb101]? = some (.cells #[(.slice A0_0 l0_0.length c0_0), (.slice A0_1 l0_1.length c0_1), (.slice A0_2 l0_2.length c0_2), (.slice A0_3 l0_3.length c0_3), .int .i64 a0_4] 40 (0, 0))) ∧ Aside0 (Below w.heap.size w wc))
   case first =>
    have H := HC9.out
    clear HC9
    by_cases c15 : a1 ≥ 0
    ·rw [if_pos c15] at H
     have c15b0 : decide (0 ≤ a1) = true := decide_eq_true c15
     clear c15
     (first | rw [c15b0] | (simp only [i64_w, i32_w]; rw [c15b0]) | skip)
     have H' := Aside0.mk H
     clear H
     have hcz16_0 : w13.cell? ⟨gb101, 0, none⟩ = some (.slice A0_0 l0_0.length c0_0) := (blk_cell BK101.out 0).trans rfl
     have hcz16_1 : w13.cell? ⟨gb101, 1, none⟩ = some (.slice A0_1 l0_1.length c0_1) := (blk_cell BK101.out 1).trans rfl
     have hcz16_2 : w13.cell? ⟨gb101, 2, none⟩ = some (.slice A0_2 l0_2.length c0_2) := (blk_cell BK101.out 2).trans rfl
     have hcz16_3 : w13.cell? ⟨gb101, 3, none⟩ = some (.slice A0_3 l0_3.length c0_3) := (blk_cell BK101.out 3).trans rfl
     have hcz16_4 : w13.cell? ⟨gb101, 4, none⟩ = some (.int .i64 a0_4) := (blk_cell BK101.out 4).trans rfl
     have hfz16_0 := blk_frozen BK101.out 0
     have hfz16_1 := blk_frozen BK101.out 1
     have hfz16_2 := blk_frozen BK101.out 2
     have hfz16_3 := blk_frozen BK101.out 3
     have hfz16_4 := blk_frozen BK101.out 4
     go_wp2
     go_meet
     case rel => exact ⟨_, (decide ((l0_1.length : Int) > 0)), bS, H', ⟨by first | omega | exact Nat.le_refl _⟩, ⟨aKw BK101⟩, ⟨bB⟩⟩
    ·rw [if_neg c15] at H
     have c15b0 : decide (0 ≤ a1) = false := decide_eq_false c15
     clear c15
     (first | rw [c15b0] | (simp only [i64_w, i32_w]; rw [c15b0]) | skip)
     have H' := Aside0.mk H
     clear H
     go_wp2
     go_meet
     case rel => exact ⟨_, (false), bS, H', ⟨by first | omega | exact Nat.le_refl _⟩, ⟨aKw BK101⟩, ⟨bB⟩⟩
   case rest =>
    clear HC9
    try clear c1
    try clear p2
    try clear c5
    try clear c6
    try clear p6
    try clear c7
    try clear c8
    try clear c14
    try clear c15
    try clear c15b0
    try clear hcz12_0
    try clear hcz12_1
    try clear hcz12_2
    try clear hcz12_3
    try clear hcz12_4
    try clear hcz14_0
    try clear hcz14_1
    try clear hcz14_2
    try clear hcz14_3
    try clear hcz14_4
    try clear hcz16_0
    try clear hcz16_1
    try clear hcz16_2
    try clear hcz16_3
    try clear hcz16_4
    try clear hfz12_0
    try clear hfz12_1
    try clear hfz12_2
    try clear hfz12_3
    try clear hfz12_4
    try clear hfz14_0
    try clear hfz14_1
    try clear hfz14_2
    try clear hfz14_3
    try clear hfz14_4
    try clear hfz16_0
    try clear hfz16_1
    try clear hfz16_2
    try clear hfz16_3
    try clear hfz16_4
    obtain ⟨kq, x25_8, rfl, HA, HJ8, BK101, HB⟩ := hcut
    cases kq with
    | zero => exact absurd HA.out (by simp [ferrulelaw20_HintAts.j0])
    | succ kj8 =>
     have H := HA.out
     clear HA
     simp only [ferrulelaw20_HintAts.j0] at H
     have HC17 := Aside0.mk H
     clear H
     go_upto_if 25 with (fail)
     go_cut [8] (fun v8 wc => ∃ (kq : Nat) (x8_16 : Bool), v8 = .bool x8_16 ∧ Aside0 (ferrulelaw20_HintAts.j1 kq a1 a2 t104 x8_16 l0_0 l0_1 l0_2 l0_3 a0_4 = some r) ∧ Aside0 (kq ≤ kj8) ∧ Aside0 (wc.heap[gb101]? = some (.cells #[(.slice A0_0 l0_0.length c0_0), (.slice A0_1 l0_1.length c0_1), (.slice A0_2 l0_2.length c0_2), (.slice A0_3 l0_3.length c0_3), .int .i64 a0_4] 40 (0, 0))) ∧ Aside0 (Below w.heap.size w wc))
     case first =>
      have H := HC17.out
      clear HC17
      by_cases c18 : x25_8 = true
      ·subst c18
       have H1 : (if (l0_1.length : Int) = 0 then (none) else (if 0 ≤ (Int.tmod a1 (l0_1.length : Int)) then (if (Int.tmod a1 (l0_1.length : Int)) < (l0_1.length : Int) then (ferrulelaw20_HintAts.j1 kj8 a1 a2 t104 (rdOf false l0_1 (Int.tmod a1 (l0_1.length : Int))) l0_0 l0_1 l0_2 l0_3 a0_4) else (none)) else (none))) = some r := by rw [if_pos rfl] at H; exact H
       clear H
       have H := H1
       clear H1
       by_cases c19 : (l0_1.length : Int) = 0
       ·rw [if_pos c19] at H
        exact absurd H (by simp)
       ·rw [if_neg c19] at H
        have c19b0 : ((l0_1.length : Int) == 0) = false := beq_eq_false_iff_ne.mpr c19
        have c19b1 : ((l0_1.length : Int) != 0) = true := bne_iff_ne.mpr c19
        have c19b2 : ¬ (l0_1 = []) := fun h_ => c19 (by rw [h_]; rfl)
        (first | rw [c19b0] | (simp only [i64_w, i32_w]; rw [c19b0]) | skip)
        obtain ⟨ji20, hji20⟩ : ∃ j_ : Int, (Int.tmod a1 (l0_1.length : Int)) = j_ := ⟨_, rfl⟩
        replace H : (if 0 ≤ (ji20) then (if (ji20) < (l0_1.length : Int) then (ferrulelaw20_HintAts.j1 kj8 a1 a2 t104 (rdOf false l0_1 (ji20)) l0_0 l0_1 l0_2 l0_3 a0_4) else (none)) else (none)) = some r := by first | (rw [hji20] at H; exact H) | (simp only [hji20] at H ⊢; exact H)
        by_cases c21 : 0 ≤ (ji20)
        ·rw [if_pos c21] at H
         have c21b0 : decide (0 ≤ (ji20)) = true := decide_eq_true c21
         clear c21
         by_cases c22 : (ji20) < (l0_1.length : Int)
         ·rw [if_pos c22] at H
          have c22b0 : decide ((ji20) < (l0_1.length : Int)) = true := decide_eq_true c22
          clear c22
          have H' := Aside0.mk H
          clear H
          try go_wp2
          replace BK101 := Aside0.mk (blk_drew BK101.out)
          replace HB := Aside0.mk (below_drew1 HB.out)
          have p105 : 0 ≤ ((ji20) : Int) := oD
          have q105 : (ji20) < (l0_1.length : Int) := oD
          obtain ⟨ad105, e105, hx105_0⟩ := Kd.at_bool HR0_1.out (ji20) p105 q105
          have hw105_0 := hx105_0
          cases e105
          replace hx105_0 := (HB.out.cell (World.block_lt_of_cell? w _ hx105_0)).trans hx105_0
          replace p105 := eq_true p105
          replace q105 := eq_true q105
          refine start_ (n := 10) (S := fun w' => w'.cell? ⟨gb101, 0, none⟩ = some (.slice A0_0 l0_0.length c0_0) ∧ w'.cell? ⟨gb101, 1, none⟩ = some (.slice (some ad105) l0_1.length c0_1) ∧ w'.cell? ⟨gb101, 2, none⟩ = some (.slice A0_2 l0_2.length c0_2) ∧ w'.cell? ⟨gb101, 3, none⟩ = some (.slice A0_3 l0_3.length c0_3) ∧ w'.cell? ⟨gb101, 4, none⟩ = some (.int .i64 a0_4) ∧ w'.cell? (ad105.add ((ji20)).toNat) = some (.bool (rdOf false l0_1 (ji20)))) (ds := []) #[false, false, false, false, false, false, false, false, false, false] (by kernel_rfl) rfl rfl ⟨(blk_cell BK101.out 0).trans rfl, (blk_cell BK101.out 1).trans rfl, (blk_cell BK101.out 2).trans rfl, (blk_cell BK101.out 3).trans rfl, (blk_cell BK101.out 4).trans rfl, ((HB.out.cell (World.block_lt_of_cell? w _ hw105_0)).trans hw105_0)⟩ (fun hHeld => ?_); refine with_tabW ferrulelaw20_HintAts.tab8 ferrulelaw20_HintAts.bits8 (fun HT_ HW_ => ?_)
          generalize wc.drew = w23 at BK101 HB hx105_0 hHeld ⊢
          refine pV 0 26 rfl rfl ?_
          refine pV 2 28 rfl rfl ?_
          refine pV 3 29 rfl rfl ?_
          refine tV 1 27 rfl rfl ?_
          refine tV 4 30 rfl rfl ?_
          refine pV 5 31 rfl rfl ?_
          refine pV 6 32 rfl rfl ?_
          refine pV 7 33 rfl rfl ?_
          refine tV 8 34 rfl rfl ?_
          refine pV 9 8 rfl rfl ?_
          refine done_ (done_of HT_.out (by kernel_rfl)) ?_
          try go_wp2
          go_meet
          case rel => exact ⟨_, (rdOf false l0_1 (ji20)), (by first | rfl | (simp; done) | (simp only [← hji20] <;> (first | rfl | simp)) | (simp [*]; done)), H', ⟨by have := HJ8.out; first | omega | exact Nat.le_refl _⟩, ⟨aKw BK101⟩, ⟨bB⟩⟩
         ·rw [if_neg c22] at H
          exact absurd H (by simp)
        ·rw [if_neg c21] at H
         exact absurd H (by simp)
      ·replace c18 := Bool.eq_false_iff.mpr c18
       subst c18
       have H1 : (ferrulelaw20_HintAts.j1 kj8 a1 a2 t104 false l0_0 l0_1 l0_2 l0_3 a0_4) = some r := by rw [if_neg (show ¬ (false = true) by decide)] at H; exact H
       clear H
       have H := H1
       clear H1
       have H' := Aside0.mk H
       clear H
       go_wp2
       go_meet
       case rel => exact ⟨_, (false), bS, H', ⟨by have := HJ8.out; first | omega | exact Nat.le_refl _⟩, ⟨aKw BK101⟩, ⟨bB⟩⟩
     case rest =>
      clear HC17
      try clear c1
      try clear p1
      try clear q1
      try clear hx1
      try clear c2
      try clear p2
      try clear c5
      try clear c6
      try clear p6
      try clear c7
      try clear c8
      try clear p10
      try clear q10
      try clear hx10
      try clear c14
      try clear c15
      try clear c15b0
      try clear c18
      try clear c19
      try clear c19b0
      try clear c19b1
      try clear c19b2
      try clear c21
      try clear c21b0
      try clear c22
      try clear c22b0
      try clear hcz12_0
      try clear hcz12_1
      try clear hcz12_2
      try clear hcz12_3
      try clear hcz12_4
      try clear hcz14_0
      try clear hcz14_1
      try clear hcz14_2
      try clear hcz14_3
      try clear hcz14_4
      try clear hcz16_0
      try clear hcz16_1
      try clear hcz16_2
      try clear hcz16_3
      try clear hcz16_4
      try clear hfz12_0
      try clear hfz12_1
      try clear hfz12_2
      try clear hfz12_3
      try clear hfz12_4
      try clear hfz14_0
      try clear hfz14_1
      try clear hfz14_2
      try clear hfz14_3
      try clear hfz14_4
      try clear hfz16_0
      try clear hfz16_1
      try clear hfz16_2
      try clear hfz16_3
      try clear hfz16_4
      try clear hx105_0
      try clear p105
      try clear p2
      try clear p6
      try clear q105
      obtain ⟨kq, x8_16, rfl, HA, HJ16, BK101, HB⟩ := hcut
      cases kq with
      | zero => exact absurd HA.out (by simp [ferrulelaw20_HintAts.j1])
      | succ kj16 =>
       have H := HA.out
       clear HA
       simp only [ferrulelaw20_HintAts.j1] at H
       replace H := Option.bind_eq_some_iff.mp H
       obtain ⟨t106, A240, H⟩ := H
       replace H : ((ferruleref20_Good.f kj16 l0_0 l0_1 l0_2 l0_3 a0_4).bind fun t107 => (if (t106 == t107) = true then ((hint_At.f l0_0 a1).bind fun t108 => (if t108 = t104 then ((hint_Due.f l0_0 a1 a2).bind fun t109 => (if a1 < (l0_0.length : Int) then (if t104 > 0 then (if (t109 == (decide (a2 ≥ t104))) = true then ((hint_Sign.f l0_1 a1).bind fun t110 => (some (t110 == x8_16))) else (some false)) else (if (t109 == false) = true then ((hint_Sign.f l0_1 a1).bind fun t111 => (some (t111 == x8_16))) else (some false))) else (if (t109 == false) = true then ((hint_Sign.f l0_1 a1).bind fun t112 => (some (t112 == x8_16))) else (some false)))) else (some false))) else (some false))) = some r := H
       have A24 := Aside0.mk A240
       clear A240
       replace H := Option.bind_eq_some_iff.mp H
       obtain ⟨t107, A250, H⟩ := H
       replace H : (if (t106 == t107) = true then ((hint_At.f l0_0 a1).bind fun t108 => (if t108 = t104 then ((hint_Due.f l0_0 a1 a2).bind fun t109 => (if a1 < (l0_0.length : Int) then (if t104 > 0 then (if (t109 == (decide (a2 ≥ t104))) = true then ((hint_Sign.f l0_1 a1).bind fun t110 => (some (t110 == x8_16))) else (some false)) else (if (t109 == false) = true then ((hint_Sign.f l0_1 a1).bind fun t111 => (some (t111 == x8_16))) else (some false))) else (if (t109 == false) = true then ((hint_Sign.f l0_1 a1).bind fun t112 => (some (t112 == x8_16))) else (some false)))) else (some false))) else (some false)) = some r := H
       have A25 := Aside0.mk A250
       clear A250
       by_cases c26 : (t106 == t107) = true
       ·rw [if_pos c26] at H
        have c26b0 : (t106 == t107) = true := c26
        (try (have c26b1 : decide (t106 = t107) = true := by simpa using c26))
        (try (have c26b2 : (t106 == t107) = true := by simpa using c26))
        clear c26
        replace H := Option.bind_eq_some_iff.mp H
        obtain ⟨t108, A270, H⟩ := H
        replace H : (if t108 = t104 then ((hint_Due.f l0_0 a1 a2).bind fun t109 => (if a1 < (l0_0.length : Int) then (if t104 > 0 then (if (t109 == (decide (a2 ≥ t104))) = true then ((hint_Sign.f l0_1 a1).bind fun t110 => (some (t110 == x8_16))) else (some false)) else (if (t109 == false) = true then ((hint_Sign.f l0_1 a1).bind fun t111 => (some (t111 == x8_16))) else (some false))) else (if (t109 == false) = true then ((hint_Sign.f l0_1 a1).bind fun t112 => (some (t112 == x8_16))) else (some false)))) else (some false)) = some r := H
        have A27 := Aside0.mk A270
        clear A270
        by_cases c28 : t108 = t104
        ·rw [if_pos c28] at H
         have c28b0 : (t108 == t104) = true := beq_iff_eq.mpr c28
         have c28b1 : (t108 != t104) = false := bne_eq_false_iff_eq.mpr c28
         clear c28
         replace H := Option.bind_eq_some_iff.mp H
         obtain ⟨t109, A290, H⟩ := H
         replace H : (if a1 < (l0_0.length : Int) then (if t104 > 0 then (if (t109 == (decide (a2 ≥ t104))) = true then ((hint_Sign.f l0_1 a1).bind fun t110 => (some (t110 == x8_16))) else (some false)) else (if (t109 == false) = true then ((hint_Sign.f l0_1 a1).bind fun t111 => (some (t111 == x8_16))) else (some false))) else (if (t109 == false) = true then ((hint_Sign.f l0_1 a1).bind fun t112 => (some (t112 == x8_16))) else (some false))) = some r := H
         have A29 := Aside0.mk A290
         clear A290
         by_cases c30 : a1 < (l0_0.length : Int)
         ·rw [if_pos c30] at H
          have c30b0 : decide (a1 < (l0_0.length : Int)) = true := decide_eq_true c30
          clear c30
          by_cases c31 : t104 > 0
          ·rw [if_pos c31] at H
           have c31b0 : decide (0 < t104) = true := decide_eq_true c31
           clear c31
           by_cases c32 : (t109 == (decide (a2 ≥ t104))) = true
           ·rw [if_pos c32] at H
            have c32b0 : (t109 == (decide (a2 ≥ t104))) = true := c32
            (try (have c32b1 : decide (t109 = (decide (a2 ≥ t104))) = true := by simpa using c32))
            (try (have c32b2 : (t109 == (decide (a2 ≥ t104))) = true := by simpa using c32))
            clear c32
            replace H := Option.bind_eq_some_iff.mp H
            obtain ⟨t110, A330, H⟩ := H
            replace H : (some (t110 == x8_16)) = some r := H
            have A33 := Aside0.mk A330
            clear A330
            obtain rfl := Option.some.inj H
            try go_wp2
            replace BK101 := Aside0.mk (blk_drew BK101.out)
            replace HB := Aside0.mk (below_drew1 HB.out)
            refine start_ (n := 44) (S := fun w' => w'.cell? ⟨gb101, 0, none⟩ = some (.slice A0_0 l0_0.length c0_0) ∧ w'.cell? ⟨gb101, 1, none⟩ = some (.slice A0_1 l0_1.length c0_1) ∧ w'.cell? ⟨gb101, 2, none⟩ = some (.slice A0_2 l0_2.length c0_2) ∧ w'.cell? ⟨gb101, 3, none⟩ = some (.slice A0_3 l0_3.length c0_3) ∧ w'.cell? ⟨gb101, 4, none⟩ = some (.int .i64 a0_4)) (ds := []) #[false, false, false, false, false, false, false, false, false, false, false, false, false, false, false, false, false, false, false, false, false, false, false, false, false, false, false, false, false, false, false, false, false, false, false, false, false, false, false, false, false, false, false, false] (by kernel_rfl) rfl rfl ⟨(blk_cell BK101.out 0).trans rfl, (blk_cell BK101.out 1).trans rfl, (blk_cell BK101.out 2).trans rfl, (blk_cell BK101.out 3).trans rfl, (blk_cell BK101.out 4).trans rfl⟩ (fun hHeld => ?_); refine with_tabW ferrulelaw20_HintAts.tab9 ferrulelaw20_HintAts.bits9 (fun HT_ HW_ => ?_)
            generalize wc.drew = w34 at BK101 HB hHeld ⊢
            refine tV 0 35 rfl rfl ?_
            refine tV 2 37 rfl rfl ?_
            refine one_ (i := 1) (N := some 36) #[true, true, true, false, false, false, false, false, false, false, false, false, false, false, false, false, false, false, false, false, false, false, false, false, false, false, false, false, false, false, false, false, false, false, false, false, false, false, false, false, false, false, false, false] rfl rfl (one_of HT_.out (by kernel_rfl)) (by decide) (fun K hK => ?_)
            refine goes_ Try.func16 (by kernel_rfl) rfl #[.agg #[.slice A0_0 l0_0.length c0_0, .slice A0_1 l0_1.length c0_1, .slice A0_2 l0_2.length c0_2, .slice A0_3 l0_3.length c0_3, .int .i64 a0_4]] (by rfl) rfl rfl bM ?_
            with_reducible refine (hint_Good.calls kj16 _ _ l0_0 _ _ l0_1 _ _ l0_2 _ _ l0_3 a0_4 t106 _ ?side1 ?side2 ?side3 ?side4 ?side5 ?side6 ?side7 ?side8 A24.out).mono ?_
            (case side1 => exact sW (Kd.C_below HR0_0.out HB.out))
            (case side2 => exact HC0_0.out)
            (case side3 => exact sW (Kd.C_below HR0_1.out HB.out))
            (case side4 => exact HC0_1.out)
            (case side5 => exact sW (Kd.C_below HR0_2.out HB.out))
            (case side6 => exact HC0_2.out)
            (case side7 => exact sW (Kd.C_below HR0_3.out HB.out))
            (case side8 => exact HC0_3.out)
            rintro e w35 ⟨rfl, hb⟩
            refine ⟨_, rfl, ?_⟩
            replace BK101 := aK BK101 hb
            replace HB := aB HB hb
            (try clear hb)
            (try clear hb2)
            (try clear hk)
            (try clear hi)
            refine hK.out _ _ ⟨(blk_cell BK101.out 0).trans rfl, (blk_cell BK101.out 1).trans rfl, (blk_cell BK101.out 2).trans rfl, (blk_cell BK101.out 3).trans rfl, (blk_cell BK101.out 4).trans rfl⟩ (fun hHeld => ?_)
            clear hK K
            refine norm_ (a' := ?_) ?_ ?_
            rotate_left
            ·show Act.put _ (some 36) _ = _
             simp only [Act.put, List.setIfInBounds_toArray, List.set_cons_zero, List.set_cons_succ, i64_w, i32_w]
             rfl
            refine one_ (i := 3) (N := some 38) #[true, true, true, true, false, false, false, false, false, false, false, false, false, false, false, false, false, false, false, false, false, false, false, false, false, false, false, false, false, false, false, false, false, false, false, false, false, false, false, false, false, false, false, false] rfl rfl (one_of HT_.out (by kernel_rfl)) (by decide) (fun K hK => ?_)
            refine goes_ Try.func17 (by kernel_rfl) rfl #[.agg #[.slice A0_0 l0_0.length c0_0, .slice A0_1 l0_1.length c0_1, .slice A0_2 l0_2.length c0_2, .slice A0_3 l0_3.length c0_3, .int .i64 a0_4]] (by rfl) rfl rfl bM ?_
            with_reducible refine (ferruleref20_Good.calls kj16 _ _ l0_0 _ _ l0_1 _ _ l0_2 _ _ l0_3 a0_4 t107 _ ?side1 ?side2 ?side3 ?side4 ?side5 ?side6 ?side7 ?side8 A25.out).mono ?_
            (case side1 => exact sW (Kd.C_below HR0_0.out HB.out))
            (case side2 => exact HC0_0.out)
            (case side3 => exact sW (Kd.C_below HR0_1.out HB.out))
            (case side4 => exact HC0_1.out)
            (case side5 => exact sW (Kd.C_below HR0_2.out HB.out))
            (case side6 => exact HC0_2.out)
            (case side7 => exact sW (Kd.C_below HR0_3.out HB.out))
            (case side8 => exact HC0_3.out)
            rintro e w36 ⟨rfl, hb⟩
            refine ⟨_, rfl, ?_⟩
            replace BK101 := aK BK101 hb
            replace HB := aB HB hb
            (try clear hb)
            (try clear hb2)
            (try clear hk)
            (try clear hi)
            refine hK.out _ _ ⟨(blk_cell BK101.out 0).trans rfl, (blk_cell BK101.out 1).trans rfl, (blk_cell BK101.out 2).trans rfl, (blk_cell BK101.out 3).trans rfl, (blk_cell BK101.out 4).trans rfl⟩ (fun hHeld => ?_)
            clear hK K
            refine norm_ (a' := ?_) ?_ ?_
            rotate_left
            ·show Act.put _ (some 38) _ = _
             simp only [Act.put, List.setIfInBounds_toArray, List.set_cons_zero, List.set_cons_succ, i64_w, i32_w]
             rfl
            refine pV 4 39 rfl rfl ?_
            refine pV 5 40 rfl rfl ?_
            refine pV 6 41 rfl rfl ?_
            refine pV 8 43 rfl rfl ?_
            refine pV 10 45 rfl rfl ?_
            refine tV 7 42 rfl rfl ?_
            refine one_ (i := 9) (N := some 44) #[true, true, true, true, true, true, true, true, true, true, true, false, false, false, false, false, false, false, false, false, false, false, false, false, false, false, false, false, false, false, false, false, false, false, false, false, false, false, false, false, false, false, false, false] rfl rfl (one_of HT_.out (by kernel_rfl)) (by decide) (fun K hK => ?_)
            refine goes_ Try.func9 (by kernel_rfl) rfl #[.slice A0_0 l0_0.length c0_0, .int .i64 a1] (by rfl) rfl rfl bM ?_
            with_reducible refine (hint_At.calls _ _ l0_0 a1 t108 _ ?side1 ?side2 A27.out).mono ?_
            (case side1 => exact sW (Kd.C_below HR0_0.out HB.out))
            (case side2 => exact HC0_0.out)
            rintro e w' ⟨rfl, ⟨nd, rfl⟩⟩
            refine ⟨_, rfl, ?_⟩
            refine hK.out _ _ ⟨(blk_cell BK101.out 0).trans rfl, (blk_cell BK101.out 1).trans rfl, (blk_cell BK101.out 2).trans rfl, (blk_cell BK101.out 3).trans rfl, (blk_cell BK101.out 4).trans rfl⟩ (fun hHeld => ?_)
            clear hK K
            refine norm_ (a' := ?_) ?_ ?_
            rotate_left
            ·show Act.put _ (some 44) _ = _
             simp only [Act.put, List.setIfInBounds_toArray, List.set_cons_zero, List.set_cons_succ, i64_w, i32_w]
             rfl
            refine pV 11 46 rfl rfl ?_
            refine pV 12 47 rfl rfl ?_
            refine pV 13 48 rfl rfl ?_
            refine pV 14 49 rfl rfl ?_
            refine pV 16 51 rfl rfl ?_
            refine pV 17 52 rfl rfl ?_
            refine pV 19 54 rfl rfl ?_
            refine pV 20 55 rfl rfl ?_
            refine tV 15 50 rfl rfl ?_
            refine tV 21 56 rfl rfl ?_
            refine pV 22 57 rfl rfl ?_
            refine pV 23 58 rfl rfl ?_
            refine one_ (i := 18) (N := some 53) #[true, true, true, true, true, true, true, true, true, true, true, true, true, true, true, true, true, true, true, true, true, true, true, true, false, false, false, false, false, false, false, false, false, false, false, false, false, false, false, false, false, false, false, false] rfl rfl (one_of HT_.out (by kernel_rfl)) (by decide) (fun K hK => ?_)
            refine goes_ Try.func18 (by kernel_rfl) rfl #[.slice A0_0 l0_0.length c0_0, .int .i64 a1, .int .i64 a2] (by rfl) rfl rfl bM ?_
            with_reducible refine (hint_Due.calls _ _ l0_0 a1 a2 t109 _ ?side1 ?side2 A29.out).mono ?_
            (case side1 => exact sW (Kd.C_below HR0_0.out bB))
            (case side2 => exact HC0_0.out)
            rintro e w' ⟨rfl, ⟨nd, rfl⟩⟩
            refine ⟨_, rfl, ?_⟩
            refine hK.out _ _ ⟨(blk_cell BK101.out 0).trans rfl, (blk_cell BK101.out 1).trans rfl, (blk_cell BK101.out 2).trans rfl, (blk_cell BK101.out 3).trans rfl, (blk_cell BK101.out 4).trans rfl⟩ (fun hHeld => ?_)
            clear hK K
            refine norm_ (a' := ?_) ?_ ?_
            rotate_left
            ·show Act.put _ (some 53) _ = _
             simp only [Act.put, List.setIfInBounds_toArray, List.set_cons_zero, List.set_cons_succ, i64_w, i32_w]
             rfl
            refine pV 24 59 rfl rfl ?_
            refine pV 25 60 rfl rfl ?_
            refine pV 26 61 rfl rfl ?_
            refine pV 27 62 rfl rfl ?_
            refine pV 28 63 rfl rfl ?_
            refine pV 29 64 rfl rfl ?_
            refine pV 30 65 rfl rfl ?_
            refine pV 31 66 rfl rfl ?_
            refine pV 32 67 rfl rfl ?_
            refine pV 33 68 rfl rfl ?_
            refine pV 34 69 rfl rfl ?_
            refine pV 35 70 rfl rfl ?_
            refine pV 36 71 rfl rfl ?_
            refine pV 38 73 rfl rfl ?_
            refine pV 40 75 rfl rfl ?_
            refine tV 37 72 rfl rfl ?_
            refine one_ (i := 39) (N := some 74) #[true, true, true, true, true, true, true, true, true, true, true, true, true, true, true, true, true, true, true, true, true, true, true, true, true, true, true, true, true, true, true, true, true, true, true, true, true, true, true, true, true, false, false, false] rfl rfl (one_of HT_.out (by kernel_rfl)) (by decide) (fun K hK => ?_)
            refine goes_ Try.func10 (by kernel_rfl) rfl #[.slice A0_1 l0_1.length c0_1, .int .i64 a1] (by rfl) rfl rfl bM ?_
            with_reducible refine (hint_Sign.calls _ _ l0_1 a1 t110 _ ?side1 ?side2 A33.out).mono ?_
            (case side1 => exact sW (Kd.C_below HR0_1.out bB))
            (case side2 => exact HC0_1.out)
            rintro e w' ⟨rfl, ⟨nd, rfl⟩⟩
            refine ⟨_, rfl, ?_⟩
            refine hK.out _ _ ⟨(blk_cell BK101.out 0).trans rfl, (blk_cell BK101.out 1).trans rfl, (blk_cell BK101.out 2).trans rfl, (blk_cell BK101.out 3).trans rfl, (blk_cell BK101.out 4).trans rfl⟩ (fun hHeld => ?_)
            clear hK K
            refine norm_ (a' := ?_) ?_ ?_
            rotate_left
            ·show Act.put _ (some 74) _ = _
             simp only [Act.put, List.setIfInBounds_toArray, List.set_cons_zero, List.set_cons_succ, i64_w, i32_w]
             rfl
            refine pV 41 76 rfl rfl ?_
            refine pV 42 77 rfl rfl ?_
            refine pV 43 6 rfl rfl ?_
            refine done_ (done_of HT_.out (by kernel_rfl)) ?_
            try go_wp2
            go_ret
            exact ⟨by first | rfl | (simp [errW_none, errW_some] <;> rfl) | (simp [*, errW_none, errW_some] <;> rfl), bB⟩
           ·rw [if_neg c32] at H
            have c32b0 : (t109 == (decide (a2 ≥ t104))) = false := by simpa using c32
            (try (have c32b1 : decide (t109 = (decide (a2 ≥ t104))) = false := by simpa using c32))
            (try (have c32b2 : (t109 == (decide (a2 ≥ t104))) = false := by simpa using c32))
            (try (have c32b3 : ¬ (t109 = (decide (a2 ≥ t104))) := by simpa using c32))
            clear c32
            obtain rfl := Option.some.inj H
            try go_wp2
            replace BK101 := Aside0.mk (blk_drew BK101.out)
            replace HB := Aside0.mk (below_drew1 HB.out)
            refine start_ (n := 44) (S := fun w' => w'.cell? ⟨gb101, 0, none⟩ = some (.slice A0_0 l0_0.length c0_0) ∧ w'.cell? ⟨gb101, 1, none⟩ = some (.slice A0_1 l0_1.length c0_1) ∧ w'.cell? ⟨gb101, 2, none⟩ = some (.slice A0_2 l0_2.length c0_2) ∧ w'.cell? ⟨gb101, 3, none⟩ = some (.slice A0_3 l0_3.length c0_3) ∧ w'.cell? ⟨gb101, 4, none⟩ = some (.int .i64 a0_4)) (ds := []) #[false, false, false, false, false, false, false, false, false, false, false, false, false, false, false, false, false, false, false, false, false, false, false, false, false, false, false, false, false, false, false, false, false, false, false, false, false, false, false, false, false, false, false, false] (by kernel_rfl) rfl rfl ⟨(blk_cell BK101.out 0).trans rfl, (blk_cell BK101.out 1).trans rfl, (blk_cell BK101.out 2).trans rfl, (blk_cell BK101.out 3).trans rfl, (blk_cell BK101.out 4).trans rfl⟩ (fun hHeld => ?_); refine with_tabW ferrulelaw20_HintAts.tab9 ferrulelaw20_HintAts.bits9 (fun HT_ HW_ => ?_)
            generalize wc.drew = w37 at BK101 HB hHeld ⊢
            refine tV 0 35 rfl rfl ?_
            refine tV 2 37 rfl rfl ?_
            refine one_ (i := 1) (N := some 36) #[true, true, true, false, false, false, false, false, false, false, false, false, false, false, false, false, false, false, false, false, false, false, false, false, false, false, false, false, false, false, false, false, false, false, false, false, false, false, false, false, false, false, false, false] rfl rfl (one_of HT_.out (by kernel_rfl)) (by decide) (fun K hK => ?_)
            refine goes_ Try.func16 (by kernel_rfl) rfl #[.agg #[.slice A0_0 l0_0.length c0_0, .slice A0_1 l0_1.length c0_1, .slice A0_2 l0_2.length c0_2, .slice A0_3 l0_3.length c0_3, .int .i64 a0_4]] (by rfl) rfl rfl bM ?_
            with_reducible refine (hint_Good.calls kj16 _ _ l0_0 _ _ l0_1 _ _ l0_2 _ _ l0_3 a0_4 t106 _ ?side1 ?side2 ?side3 ?side4 ?side5 ?side6 ?side7 ?side8 A24.out).mono ?_
            (case side1 => exact sW (Kd.C_below HR0_0.out HB.out))
            (case side2 => exact HC0_0.out)
            (case side3 => exact sW (Kd.C_below HR0_1.out HB.out))
            (case side4 => exact HC0_1.out)
            (case side5 => exact sW (Kd.C_below HR0_2.out HB.out))
            (case side6 => exact HC0_2.out)
            (case side7 => exact sW (Kd.C_below HR0_3.out HB.out))
            (case side8 => exact HC0_3.out)
            rintro e w38 ⟨rfl, hb⟩
            refine ⟨_, rfl, ?_⟩
            replace BK101 := aK BK101 hb
            replace HB := aB HB hb
            (try clear hb)
            (try clear hb2)
            (try clear hk)
            (try clear hi)
            refine hK.out _ _ ⟨(blk_cell BK101.out 0).trans rfl, (blk_cell BK101.out 1).trans rfl, (blk_cell BK101.out 2).trans rfl, (blk_cell BK101.out 3).trans rfl, (blk_cell BK101.out 4).trans rfl⟩ (fun hHeld => ?_)
            clear hK K
            refine norm_ (a' := ?_) ?_ ?_
            rotate_left
            ·show Act.put _ (some 36) _ = _
             simp only [Act.put, List.setIfInBounds_toArray, List.set_cons_zero, List.set_cons_succ, i64_w, i32_w]
             rfl
            refine one_ (i := 3) (N := some 38) #[true, true, true, true, false, false, false, false, false, false, false, false, false, false, false, false, false, false, false, false, false, false, false, false, false, false, false, false, false, false, false, false, false, false, false, false, false, false, false, false, false, false, false, false] rfl rfl (one_of HT_.out (by kernel_rfl)) (by decide) (fun K hK => ?_)
            refine goes_ Try.func17 (by kernel_rfl) rfl #[.agg #[.slice A0_0 l0_0.length c0_0, .slice A0_1 l0_1.length c0_1, .slice A0_2 l0_2.length c0_2, .slice A0_3 l0_3.length c0_3, .int .i64 a0_4]] (by rfl) rfl rfl bM ?_
            with_reducible refine (ferruleref20_Good.calls kj16 _ _ l0_0 _ _ l0_1 _ _ l0_2 _ _ l0_3 a0_4 t107 _ ?side1 ?side2 ?side3 ?side4 ?side5 ?side6 ?side7 ?side8 A25.out).mono ?_
            (case side1 => exact sW (Kd.C_below HR0_0.out HB.out))
            (case side2 => exact HC0_0.out)
            (case side3 => exact sW (Kd.C_below HR0_1.out HB.out))
            (case side4 => exact HC0_1.out)
            (case side5 => exact sW (Kd.C_below HR0_2.out HB.out))
            (case side6 => exact HC0_2.out)
            (case side7 => exact sW (Kd.C_below HR0_3.out HB.out))
            (case side8 => exact HC0_3.out)
            rintro e w39 ⟨rfl, hb⟩
            refine ⟨_, rfl, ?_⟩
            replace BK101 := aK BK101 hb
            replace HB := aB HB hb
            (try clear hb)
            (try clear hb2)
            (try clear hk)
            (try clear hi)
            refine hK.out _ _ ⟨(blk_cell BK101.out 0).trans rfl, (blk_cell BK101.out 1).trans rfl, (blk_cell BK101.out 2).trans rfl, (blk_cell BK101.out 3).trans rfl, (blk_cell BK101.out 4).trans rfl⟩ (fun hHeld => ?_)
            clear hK K
            refine norm_ (a' := ?_) ?_ ?_
            rotate_left
            ·show Act.put _ (some 38) _ = _
             simp only [Act.put, List.setIfInBounds_toArray, List.set_cons_zero, List.set_cons_succ, i64_w, i32_w]
             rfl
            refine pV 4 39 rfl rfl ?_
            refine pV 5 40 rfl rfl ?_
            refine pV 6 41 rfl rfl ?_
            refine pV 8 43 rfl rfl ?_
            refine pV 10 45 rfl rfl ?_
            refine tV 7 42 rfl rfl ?_
            refine one_ (i := 9) (N := some 44) #[true, true, true, true, true, true, true, true, true, true, true, false, false, false, false, false, false, false, false, false, false, false, false, false, false, false, false, false, false, false, false, false, false, false, false, false, false, false, false, false, false, false, false, false] rfl rfl (one_of HT_.out (by kernel_rfl)) (by decide) (fun K hK => ?_)
            refine goes_ Try.func9 (by kernel_rfl) rfl #[.slice A0_0 l0_0.length c0_0, .int .i64 a1] (by rfl) rfl rfl bM ?_
            with_reducible refine (hint_At.calls _ _ l0_0 a1 t108 _ ?side1 ?side2 A27.out).mono ?_
            (case side1 => exact sW (Kd.C_below HR0_0.out HB.out))
            (case side2 => exact HC0_0.out)
            rintro e w' ⟨rfl, ⟨nd, rfl⟩⟩
            refine ⟨_, rfl, ?_⟩
            refine hK.out _ _ ⟨(blk_cell BK101.out 0).trans rfl, (blk_cell BK101.out 1).trans rfl, (blk_cell BK101.out 2).trans rfl, (blk_cell BK101.out 3).trans rfl, (blk_cell BK101.out 4).trans rfl⟩ (fun hHeld => ?_)
            clear hK K
            refine norm_ (a' := ?_) ?_ ?_
            rotate_left
            ·show Act.put _ (some 44) _ = _
             simp only [Act.put, List.setIfInBounds_toArray, List.set_cons_zero, List.set_cons_succ, i64_w, i32_w]
             rfl
            refine pV 11 46 rfl rfl ?_
            refine pV 12 47 rfl rfl ?_
            refine pV 13 48 rfl rfl ?_
            refine pV 14 49 rfl rfl ?_
            refine pV 16 51 rfl rfl ?_
            refine pV 17 52 rfl rfl ?_
            refine pV 19 54 rfl rfl ?_
            refine pV 20 55 rfl rfl ?_
            refine tV 15 50 rfl rfl ?_
            refine tV 21 56 rfl rfl ?_
            refine pV 22 57 rfl rfl ?_
            refine pV 23 58 rfl rfl ?_
            refine one_ (i := 18) (N := some 53) #[true, true, true, true, true, true, true, true, true, true, true, true, true, true, true, true, true, true, true, true, true, true, true, true, false, false, false, false, false, false, false, false, false, false, false, false, false, false, false, false, false, false, false, false] rfl rfl (one_of HT_.out (by kernel_rfl)) (by decide) (fun K hK => ?_)
            refine goes_ Try.func18 (by kernel_rfl) rfl #[.slice A0_0 l0_0.length c0_0, .int .i64 a1, .int .i64 a2] (by rfl) rfl rfl bM ?_
            with_reducible refine (hint_Due.calls _ _ l0_0 a1 a2 t109 _ ?side1 ?side2 A29.out).mono ?_
            (case side1 => exact sW (Kd.C_below HR0_0.out bB))
            (case side2 => exact HC0_0.out)
            rintro e w' ⟨rfl, ⟨nd, rfl⟩⟩
            refine ⟨_, rfl, ?_⟩
            refine hK.out _ _ ⟨(blk_cell BK101.out 0).trans rfl, (blk_cell BK101.out 1).trans rfl, (blk_cell BK101.out 2).trans rfl, (blk_cell BK101.out 3).trans rfl, (blk_cell BK101.out 4).trans rfl⟩ (fun hHeld => ?_)
            clear hK K
            refine norm_ (a' := ?_) ?_ ?_
            rotate_left
            ·show Act.put _ (some 53) _ = _
             simp only [Act.put, List.setIfInBounds_toArray, List.set_cons_zero, List.set_cons_succ, i64_w, i32_w]
             rfl
            refine pV 24 59 rfl rfl ?_
            refine pV 25 60 rfl rfl ?_
            refine pV 26 61 rfl rfl ?_
            refine pV 27 62 rfl rfl ?_
            refine pV 28 63 rfl rfl ?_
            refine pV 29 64 rfl rfl ?_
            refine pV 30 65 rfl rfl ?_
            refine pV 31 66 rfl rfl ?_
            refine pV 32 67 rfl rfl ?_
            refine pV 33 68 rfl rfl ?_
            refine pV 34 69 rfl rfl ?_
            refine pV 35 70 rfl rfl ?_
            refine pU 36 71 rfl rfl ?_
            refine pU 37 72 rfl rfl ?_
            refine pU 38 73 rfl rfl ?_
            refine pU 39 74 rfl rfl ?_
            refine pU 40 75 rfl rfl ?_
            refine pU 41 76 rfl rfl ?_
            refine pV 42 77 rfl rfl ?_
            refine pV 43 6 rfl rfl ?_
            refine done_ (done_of HT_.out (by kernel_rfl)) ?_
            try go_wp2
            go_ret
            exact ⟨by first | rfl | (simp [errW_none, errW_some] <;> rfl) | (simp [*, errW_none, errW_some] <;> rfl), bB⟩
          ·rw [if_neg c31] at H
           have c31b0 : decide (0 < t104) = false := decide_eq_false c31
           clear c31
           by_cases c40 : (t109 == false) = true
           ·rw [if_pos c40] at H
            have c40b0 : (t109 == false) = true := c40
            (try (have c40b1 : decide (t109 = false) = true := by simpa using c40))
            (try (have c40b2 : (t109 == false) = true := by simpa using c40))
            clear c40
            replace H := Option.bind_eq_some_iff.mp H
            obtain ⟨t111, A410, H⟩ := H
            replace H : (some (t111 == x8_16)) = some r := H
            have A41 := Aside0.mk A410
            clear A410
            obtain rfl := Option.some.inj H
            try go_wp2
            replace BK101 := Aside0.mk (blk_drew BK101.out)
            replace HB := Aside0.mk (below_drew1 HB.out)
            refine start_ (n := 44) (S := fun w' => w'.cell? ⟨gb101, 0, none⟩ = some (.slice A0_0 l0_0.length c0_0) ∧ w'.cell? ⟨gb101, 1, none⟩ = some (.slice A0_1 l0_1.length c0_1) ∧ w'.cell? ⟨gb101, 2, none⟩ = some (.slice A0_2 l0_2.length c0_2) ∧ w'.cell? ⟨gb101, 3, none⟩ = some (.slice A0_3 l0_3.length c0_3) ∧ w'.cell? ⟨gb101, 4, none⟩ = some (.int .i64 a0_4)) (ds := []) #[false, false, false, false, false, false, false, false, false, false, false, false, false, false, false, false, false, false, false, false, false, false, false, false, false, false, false, false, false, false, false, false, false, false, false, false, false, false, false, false, false, false, false, false] (by kernel_rfl) rfl rfl ⟨(blk_cell BK101.out 0).trans rfl, (blk_cell BK101.out 1).trans rfl, (blk_cell BK101.out 2).trans rfl, (blk_cell BK101.out 3).trans rfl, (blk_cell BK101.out 4).trans rfl⟩ (fun hHeld => ?_); refine with_tabW ferrulelaw20_HintAts.tab9 ferrulelaw20_HintAts.bits9 (fun HT_ HW_ => ?_)
            generalize wc.drew = w42 at BK101 HB hHeld ⊢
            refine tV 0 35 rfl rfl ?_
            refine tV 2 37 rfl rfl ?_
            refine one_ (i := 1) (N := some 36) #[true, true, true, false, false, false, false, false, false, false, false, false, false, false, false, false, false, false, false, false, false, false, false, false, false, false, false, false, false, false, false, false, false, false, false, false, false, false, false, false, false, false, false, false] rfl rfl (one_of HT_.out (by kernel_rfl)) (by decide) (fun K hK => ?_)
            refine goes_ Try.func16 (by kernel_rfl) rfl #[.agg #[.slice A0_0 l0_0.length c0_0, .slice A0_1 l0_1.length c0_1, .slice A0_2 l0_2.length c0_2, .slice A0_3 l0_3.length c0_3, .int .i64 a0_4]] (by rfl) rfl rfl bM ?_
            with_reducible refine (hint_Good.calls kj16 _ _ l0_0 _ _ l0_1 _ _ l0_2 _ _ l0_3 a0_4 t106 _ ?side1 ?side2 ?side3 ?side4 ?side5 ?side6 ?side7 ?side8 A24.out).mono ?_
            (case side1 => exact sW (Kd.C_below HR0_0.out HB.out))
            (case side2 => exact HC0_0.out)
            (case side3 => exact sW (Kd.C_below HR0_1.out HB.out))
            (case side4 => exact HC0_1.out)
            (case side5 => exact sW (Kd.C_below HR0_2.out HB.out))
            (case side6 => exact HC0_2.out)
            (case side7 => exact sW (Kd.C_below HR0_3.out HB.out))
            (case side8 => exact HC0_3.out)
            rintro e w43 ⟨rfl, hb⟩
            refine ⟨_, rfl, ?_⟩
            replace BK101 := aK BK101 hb
            replace HB := aB HB hb
            (try clear hb)
            (try clear hb2)
            (try clear hk)
            (try clear hi)
            refine hK.out _ _ ⟨(blk_cell BK101.out 0).trans rfl, (blk_cell BK101.out 1).trans rfl, (blk_cell BK101.out 2).trans rfl, (blk_cell BK101.out 3).trans rfl, (blk_cell BK101.out 4).trans rfl⟩ (fun hHeld => ?_)
            clear hK K
            refine norm_ (a' := ?_) ?_ ?_
            rotate_left
            ·show Act.put _ (some 36) _ = _
             simp only [Act.put, List.setIfInBounds_toArray, List.set_cons_zero, List.set_cons_succ, i64_w, i32_w]
             rfl
            refine one_ (i := 3) (N := some 38) #[true, true, true, true, false, false, false, false, false, false, false, false, false, false, false, false, false, false, false, false, false, false, false, false, false, false, false, false, false, false, false, false, false, false, false, false, false, false, false, false, false, false, false, false] rfl rfl (one_of HT_.out (by kernel_rfl)) (by decide) (fun K hK => ?_)
            refine goes_ Try.func17 (by kernel_rfl) rfl #[.agg #[.slice A0_0 l0_0.length c0_0, .slice A0_1 l0_1.length c0_1, .slice A0_2 l0_2.length c0_2, .slice A0_3 l0_3.length c0_3, .int .i64 a0_4]] (by rfl) rfl rfl bM ?_
            with_reducible refine (ferruleref20_Good.calls kj16 _ _ l0_0 _ _ l0_1 _ _ l0_2 _ _ l0_3 a0_4 t107 _ ?side1 ?side2 ?side3 ?side4 ?side5 ?side6 ?side7 ?side8 A25.out).mono ?_
            (case side1 => exact sW (Kd.C_below HR0_0.out HB.out))
            (case side2 => exact HC0_0.out)
            (case side3 => exact sW (Kd.C_below HR0_1.out HB.out))
            (case side4 => exact HC0_1.out)
            (case side5 => exact sW (Kd.C_below HR0_2.out HB.out))
            (case side6 => exact HC0_2.out)
            (case side7 => exact sW (Kd.C_below HR0_3.out HB.out))
            (case side8 => exact HC0_3.out)
            rintro e w44 ⟨rfl, hb⟩
            refine ⟨_, rfl, ?_⟩
            replace BK101 := aK BK101 hb
            replace HB := aB HB hb
            (try clear hb)
            (try clear hb2)
            (try clear hk)
            (try clear hi)
            refine hK.out _ _ ⟨(blk_cell BK101.out 0).trans rfl, (blk_cell BK101.out 1).trans rfl, (blk_cell BK101.out 2).trans rfl, (blk_cell BK101.out 3).trans rfl, (blk_cell BK101.out 4).trans rfl⟩ (fun hHeld => ?_)
            clear hK K
            refine norm_ (a' := ?_) ?_ ?_
            rotate_left
            ·show Act.put _ (some 38) _ = _
             simp only [Act.put, List.setIfInBounds_toArray, List.set_cons_zero, List.set_cons_succ, i64_w, i32_w]
             rfl
            refine pV 4 39 rfl rfl ?_
            refine pV 5 40 rfl rfl ?_
            refine pV 6 41 rfl rfl ?_
            refine pV 8 43 rfl rfl ?_
            refine pV 10 45 rfl rfl ?_
            refine tV 7 42 rfl rfl ?_
            refine one_ (i := 9) (N := some 44) #[true, true, true, true, true, true, true, true, true, true, true, false, false, false, false, false, false, false, false, false, false, false, false, false, false, false, false, false, false, false, false, false, false, false, false, false, false, false, false, false, false, false, false, false] rfl rfl (one_of HT_.out (by kernel_rfl)) (by decide) (fun K hK => ?_)
            refine goes_ Try.func9 (by kernel_rfl) rfl #[.slice A0_0 l0_0.length c0_0, .int .i64 a1] (by rfl) rfl rfl bM ?_
            with_reducible refine (hint_At.calls _ _ l0_0 a1 t108 _ ?side1 ?side2 A27.out).mono ?_
            (case side1 => exact sW (Kd.C_below HR0_0.out HB.out))
            (case side2 => exact HC0_0.out)
            rintro e w' ⟨rfl, ⟨nd, rfl⟩⟩
            refine ⟨_, rfl, ?_⟩
            refine hK.out _ _ ⟨(blk_cell BK101.out 0).trans rfl, (blk_cell BK101.out 1).trans rfl, (blk_cell BK101.out 2).trans rfl, (blk_cell BK101.out 3).trans rfl, (blk_cell BK101.out 4).trans rfl⟩ (fun hHeld => ?_)
            clear hK K
            refine norm_ (a' := ?_) ?_ ?_
            rotate_left
            ·show Act.put _ (some 44) _ = _
             simp only [Act.put, List.setIfInBounds_toArray, List.set_cons_zero, List.set_cons_succ, i64_w, i32_w]
             rfl
            refine pV 11 46 rfl rfl ?_
            refine pV 12 47 rfl rfl ?_
            refine pV 13 48 rfl rfl ?_
            refine pV 14 49 rfl rfl ?_
            refine pV 16 51 rfl rfl ?_
            refine pV 17 52 rfl rfl ?_
            refine pV 19 54 rfl rfl ?_
            refine pV 20 55 rfl rfl ?_
            refine tV 15 50 rfl rfl ?_
            refine tV 21 56 rfl rfl ?_
            refine pV 22 57 rfl rfl ?_
            refine pV 23 58 rfl rfl ?_
            refine one_ (i := 18) (N := some 53) #[true, true, true, true, true, true, true, true, true, true, true, true, true, true, true, true, true, true, true, true, true, true, true, true, false, false, false, false, false, false, false, false, false, false, false, false, false, false, false, false, false, false, false, false] rfl rfl (one_of HT_.out (by kernel_rfl)) (by decide) (fun K hK => ?_)
            refine goes_ Try.func18 (by kernel_rfl) rfl #[.slice A0_0 l0_0.length c0_0, .int .i64 a1, .int .i64 a2] (by rfl) rfl rfl bM ?_
            with_reducible refine (hint_Due.calls _ _ l0_0 a1 a2 t109 _ ?side1 ?side2 A29.out).mono ?_
            (case side1 => exact sW (Kd.C_below HR0_0.out bB))
            (case side2 => exact HC0_0.out)
            rintro e w' ⟨rfl, ⟨nd, rfl⟩⟩
            refine ⟨_, rfl, ?_⟩
            refine hK.out _ _ ⟨(blk_cell BK101.out 0).trans rfl, (blk_cell BK101.out 1).trans rfl, (blk_cell BK101.out 2).trans rfl, (blk_cell BK101.out 3).trans rfl, (blk_cell BK101.out 4).trans rfl⟩ (fun hHeld => ?_)
            clear hK K
            refine norm_ (a' := ?_) ?_ ?_
            rotate_left
            ·show Act.put _ (some 53) _ = _
             simp only [Act.put, List.setIfInBounds_toArray, List.set_cons_zero, List.set_cons_succ, i64_w, i32_w]
             rfl
            refine pV 24 59 rfl rfl ?_
            refine pV 25 60 rfl rfl ?_
            refine pV 26 61 rfl rfl ?_
            refine pV 27 62 rfl rfl ?_
            refine pV 28 63 rfl rfl ?_
            refine pU 29 64 rfl rfl ?_
            refine pU 30 65 rfl rfl ?_
            refine pU 31 66 rfl rfl ?_
            refine pV 32 67 rfl rfl ?_
            refine pV 33 68 rfl rfl ?_
            refine pV 34 69 rfl rfl ?_
            refine pV 35 70 rfl rfl ?_
            refine pV 36 71 rfl rfl ?_
            refine pV 38 73 rfl rfl ?_
            refine pV 40 75 rfl rfl ?_
            refine tV 37 72 rfl rfl ?_
            refine one_ (i := 39) (N := some 74) #[true, true, true, true, true, true, true, true, true, true, true, true, true, true, true, true, true, true, true, true, true, true, true, true, true, true, true, true, true, true, true, true, true, true, true, true, true, true, true, true, true, false, false, false] rfl rfl (one_of HT_.out (by kernel_rfl)) (by decide) (fun K hK => ?_)
            refine goes_ Try.func10 (by kernel_rfl) rfl #[.slice A0_1 l0_1.length c0_1, .int .i64 a1] (by rfl) rfl rfl bM ?_
            with_reducible refine (hint_Sign.calls _ _ l0_1 a1 t111 _ ?side1 ?side2 A41.out).mono ?_
            (case side1 => exact sW (Kd.C_below HR0_1.out bB))
            (case side2 => exact HC0_1.out)
            rintro e w' ⟨rfl, ⟨nd, rfl⟩⟩
            refine ⟨_, rfl, ?_⟩
            refine hK.out _ _ ⟨(blk_cell BK101.out 0).trans rfl, (blk_cell BK101.out 1).trans rfl, (blk_cell BK101.out 2).trans rfl, (blk_cell BK101.out 3).trans rfl, (blk_cell BK101.out 4).trans rfl⟩ (fun hHeld => ?_)
            clear hK K
            refine norm_ (a' := ?_) ?_ ?_
            rotate_left
            ·show Act.put _ (some 74) _ = _
             simp only [Act.put, List.setIfInBounds_toArray, List.set_cons_zero, List.set_cons_succ, i64_w, i32_w]
             rfl
            refine pV 41 76 rfl rfl ?_
            refine pV 42 77 rfl rfl ?_
            refine pV 43 6 rfl rfl ?_
            refine done_ (done_of HT_.out (by kernel_rfl)) ?_
            try go_wp2
            go_ret
            exact ⟨by first | rfl | (simp [errW_none, errW_some] <;> rfl) | (simp [*, errW_none, errW_some] <;> rfl), bB⟩
           ·rw [if_neg c40] at H
            have c40b0 : (t109 == false) = false := by simpa using c40
            (try (have c40b1 : decide (t109 = false) = false := by simpa using c40))
            (try (have c40b2 : (t109 == false) = false := by simpa using c40))
            (try (have c40b3 : ¬ (t109 = false) := by simpa using c40))
            clear c40
            obtain rfl := Option.some.inj H
            try go_wp2
            replace BK101 := Aside0.mk (blk_drew BK101.out)
            replace HB := Aside0.mk (below_drew1 HB.out)
            refine start_ (n := 44) (S := fun w' => w'.cell? ⟨gb101, 0, none⟩ = some (.slice A0_0 l0_0.length c0_0) ∧ w'.cell? ⟨gb101, 1, none⟩ = some (.slice A0_1 l0_1.length c0_1) ∧ w'.cell? ⟨gb101, 2, none⟩ = some (.slice A0_2 l0_2.length c0_2) ∧ w'.cell? ⟨gb101, 3, none⟩ = some (.slice A0_3 l0_3.length c0_3) ∧ w'.cell? ⟨gb101, 4, none⟩ = some (.int .i64 a0_4)) (ds := []) #[false, false, false, false, false, false, false, false, false, false, false, false, false, false, false, false, false, false, false, false, false, false, false, false, false, false, false, false, false, false, false, false, false, false, false, false, false, false, false, false, false, false, false, false] (by kernel_rfl) rfl rfl ⟨(blk_cell BK101.out 0).trans rfl, (blk_cell BK101.out 1).trans rfl, (blk_cell BK101.out 2).trans rfl, (blk_cell BK101.out 3).trans rfl, (blk_cell BK101.out 4).trans rfl⟩ (fun hHeld => ?_); refine with_tabW ferrulelaw20_HintAts.tab9 ferrulelaw20_HintAts.bits9 (fun HT_ HW_ => ?_)
            generalize wc.drew = w45 at BK101 HB hHeld ⊢
            refine tV 0 35 rfl rfl ?_
            refine tV 2 37 rfl rfl ?_
            refine one_ (i := 1) (N := some 36) #[true, true, true, false, false, false, false, false, false, false, false, false, false, false, false, false, false, false, false, false, false, false, false, false, false, false, false, false, false, false, false, false, false, false, false, false, false, false, false, false, false, false, false, false] rfl rfl (one_of HT_.out (by kernel_rfl)) (by decide) (fun K hK => ?_)
            refine goes_ Try.func16 (by kernel_rfl) rfl #[.agg #[.slice A0_0 l0_0.length c0_0, .slice A0_1 l0_1.length c0_1, .slice A0_2 l0_2.length c0_2, .slice A0_3 l0_3.length c0_3, .int .i64 a0_4]] (by rfl) rfl rfl bM ?_
            with_reducible refine (hint_Good.calls kj16 _ _ l0_0 _ _ l0_1 _ _ l0_2 _ _ l0_3 a0_4 t106 _ ?side1 ?side2 ?side3 ?side4 ?side5 ?side6 ?side7 ?side8 A24.out).mono ?_
            (case side1 => exact sW (Kd.C_below HR0_0.out HB.out))
            (case side2 => exact HC0_0.out)
            (case side3 => exact sW (Kd.C_below HR0_1.out HB.out))
            (case side4 => exact HC0_1.out)
            (case side5 => exact sW (Kd.C_below HR0_2.out HB.out))
            (case side6 => exact HC0_2.out)
            (case side7 => exact sW (Kd.C_below HR0_3.out HB.out))
            (case side8 => exact HC0_3.out)
            rintro e w46 ⟨rfl, hb⟩
            refine ⟨_, rfl, ?_⟩
            replace BK101 := aK BK101 hb
            replace HB := aB HB hb
            (try clear hb)
            (try clear hb2)
            (try clear hk)
            (try clear hi)
            refine hK.out _ _ ⟨(blk_cell BK101.out 0).trans rfl, (blk_cell BK101.out 1).trans rfl, (blk_cell BK101.out 2).trans rfl, (blk_cell BK101.out 3).trans rfl, (blk_cell BK101.out 4).trans rfl⟩ (fun hHeld => ?_)
            clear hK K
            refine norm_ (a' := ?_) ?_ ?_
            rotate_left
            ·show Act.put _ (some 36) _ = _
             simp only [Act.put, List.setIfInBounds_toArray, List.set_cons_zero, List.set_cons_succ, i64_w, i32_w]
             rfl
            refine one_ (i := 3) (N := some 38) #[true, true, true, true, false, false, false, false, false, false, false, false, false, false, false, false, false, false, false, false, false, false, false, false, false, false, false, false, false, false, false, false, false, false, false, false, false, false, false, false, false, false, false, false] rfl rfl (one_of HT_.out (by kernel_rfl)) (by decide) (fun K hK => ?_)
            refine goes_ Try.func17 (by kernel_rfl) rfl #[.agg #[.slice A0_0 l0_0.length c0_0, .slice A0_1 l0_1.length c0_1, .slice A0_2 l0_2.length c0_2, .slice A0_3 l0_3.length c0_3, .int .i64 a0_4]] (by rfl) rfl rfl bM ?_
            with_reducible refine (ferruleref20_Good.calls kj16 _ _ l0_0 _ _ l0_1 _ _ l0_2 _ _ l0_3 a0_4 t107 _ ?side1 ?side2 ?side3 ?side4 ?side5 ?side6 ?side7 ?side8 A25.out).mono ?_
            (case side1 => exact sW (Kd.C_below HR0_0.out HB.out))
            (case side2 => exact HC0_0.out)
            (case side3 => exact sW (Kd.C_below HR0_1.out HB.out))
            (case side4 => exact HC0_1.out)
            (case side5 => exact sW (Kd.C_below HR0_2.out HB.out))
            (case side6 => exact HC0_2.out)
            (case side7 => exact sW (Kd.C_below HR0_3.out HB.out))
            (case side8 => exact HC0_3.out)
            rintro e w47 ⟨rfl, hb⟩
            refine ⟨_, rfl, ?_⟩
            replace BK101 := aK BK101 hb
            replace HB := aB HB hb
            (try clear hb)
            (try clear hb2)
            (try clear hk)
            (try clear hi)
            refine hK.out _ _ ⟨(blk_cell BK101.out 0).trans rfl, (blk_cell BK101.out 1).trans rfl, (blk_cell BK101.out 2).trans rfl, (blk_cell BK101.out 3).trans rfl, (blk_cell BK101.out 4).trans rfl⟩ (fun hHeld => ?_)
            clear hK K
            refine norm_ (a' := ?_) ?_ ?_
            rotate_left
            ·show Act.put _ (some 38) _ = _
             simp only [Act.put, List.setIfInBounds_toArray, List.set_cons_zero, List.set_cons_succ, i64_w, i32_w]
             rfl
            refine pV 4 39 rfl rfl ?_
            refine pV 5 40 rfl rfl ?_
            refine pV 6 41 rfl rfl ?_
            refine pV 8 43 rfl rfl ?_
            refine pV 10 45 rfl rfl ?_
            refine tV 7 42 rfl rfl ?_
            refine one_ (i := 9) (N := some 44) #[true, true, true, true, true, true, true, true, true, true, true, false, false, false, false, false, false, false, false, false, false, false, false, false, false, false, false, false, false, false, false, false, false, false, false, false, false, false, false, false, false, false, false, false] rfl rfl (one_of HT_.out (by kernel_rfl)) (by decide) (fun K hK => ?_)
            refine goes_ Try.func9 (by kernel_rfl) rfl #[.slice A0_0 l0_0.length c0_0, .int .i64 a1] (by rfl) rfl rfl bM ?_
            with_reducible refine (hint_At.calls _ _ l0_0 a1 t108 _ ?side1 ?side2 A27.out).mono ?_
            (case side1 => exact sW (Kd.C_below HR0_0.out HB.out))
            (case side2 => exact HC0_0.out)
            rintro e w' ⟨rfl, ⟨nd, rfl⟩⟩
            refine ⟨_, rfl, ?_⟩
            refine hK.out _ _ ⟨(blk_cell BK101.out 0).trans rfl, (blk_cell BK101.out 1).trans rfl, (blk_cell BK101.out 2).trans rfl, (blk_cell BK101.out 3).trans rfl, (blk_cell BK101.out 4).trans rfl⟩ (fun hHeld => ?_)
            clear hK K
            refine norm_ (a' := ?_) ?_ ?_
            rotate_left
            ·show Act.put _ (some 44) _ = _
             simp only [Act.put, List.setIfInBounds_toArray, List.set_cons_zero, List.set_cons_succ, i64_w, i32_w]
             rfl
            refine pV 11 46 rfl rfl ?_
            refine pV 12 47 rfl rfl ?_
            refine pV 13 48 rfl rfl ?_
            refine pV 14 49 rfl rfl ?_
            refine pV 16 51 rfl rfl ?_
            refine pV 17 52 rfl rfl ?_
            refine pV 19 54 rfl rfl ?_
            refine pV 20 55 rfl rfl ?_
            refine tV 15 50 rfl rfl ?_
            refine tV 21 56 rfl rfl ?_
            refine pV 22 57 rfl rfl ?_
            refine pV 23 58 rfl rfl ?_
            refine one_ (i := 18) (N := some 53) #[true, true, true, true, true, true, true, true, true, true, true, true, true, true, true, true, true, true, true, true, true, true, true, true, false, false, false, false, false, false, false, false, false, false, false, false, false, false, false, false, false, false, false, false] rfl rfl (one_of HT_.out (by kernel_rfl)) (by decide) (fun K hK => ?_)
            refine goes_ Try.func18 (by kernel_rfl) rfl #[.slice A0_0 l0_0.length c0_0, .int .i64 a1, .int .i64 a2] (by rfl) rfl rfl bM ?_
            with_reducible refine (hint_Due.calls _ _ l0_0 a1 a2 t109 _ ?side1 ?side2 A29.out).mono ?_
            (case side1 => exact sW (Kd.C_below HR0_0.out bB))
            (case side2 => exact HC0_0.out)
            rintro e w' ⟨rfl, ⟨nd, rfl⟩⟩
            refine ⟨_, rfl, ?_⟩
            refine hK.out _ _ ⟨(blk_cell BK101.out 0).trans rfl, (blk_cell BK101.out 1).trans rfl, (blk_cell BK101.out 2).trans rfl, (blk_cell BK101.out 3).trans rfl, (blk_cell BK101.out 4).trans rfl⟩ (fun hHeld => ?_)
            clear hK K
            refine norm_ (a' := ?_) ?_ ?_
            rotate_left
            ·show Act.put _ (some 53) _ = _
             simp only [Act.put, List.setIfInBounds_toArray, List.set_cons_zero, List.set_cons_succ, i64_w, i32_w]
             rfl
            refine pV 24 59 rfl rfl ?_
            refine pV 25 60 rfl rfl ?_
            refine pV 26 61 rfl rfl ?_
            refine pV 27 62 rfl rfl ?_
            refine pV 28 63 rfl rfl ?_
            refine pU 29 64 rfl rfl ?_
            refine pU 30 65 rfl rfl ?_
            refine pU 31 66 rfl rfl ?_
            refine pV 32 67 rfl rfl ?_
            refine pV 33 68 rfl rfl ?_
            refine pV 34 69 rfl rfl ?_
            refine pV 35 70 rfl rfl ?_
            refine pU 36 71 rfl rfl ?_
            refine pU 37 72 rfl rfl ?_
            refine pU 38 73 rfl rfl ?_
            refine pU 39 74 rfl rfl ?_
            refine pU 40 75 rfl rfl ?_
            refine pU 41 76 rfl rfl ?_
            refine pV 42 77 rfl rfl ?_
            refine pV 43 6 rfl rfl ?_
            refine done_ (done_of HT_.out (by kernel_rfl)) ?_
            try go_wp2
            go_ret
            exact ⟨by first | rfl | (simp [errW_none, errW_some] <;> rfl) | (simp [*, errW_none, errW_some] <;> rfl), bB⟩
         ·rw [if_neg c30] at H
          have c30b0 : decide (a1 < (l0_0.length : Int)) = false := decide_eq_false c30
          clear c30
          by_cases c48 : (t109 == false) = true
          ·rw [if_pos c48] at H
           have c48b0 : (t109 == false) = true := c48
           (try (have c48b1 : decide (t109 = false) = true := by simpa using c48))
           (try (have c48b2 : (t109 == false) = true := by simpa using c48))
           clear c48
           replace H := Option.bind_eq_some_iff.mp H
           obtain ⟨t112, A490, H⟩ := H
           replace H : (some (t112 == x8_16)) = some r := H
           have A49 := Aside0.mk A490
           clear A490
           obtain rfl := Option.some.inj H
           try go_wp2
           replace BK101 := Aside0.mk (blk_drew BK101.out)
           replace HB := Aside0.mk (below_drew1 HB.out)
           refine start_ (n := 44) (S := fun w' => w'.cell? ⟨gb101, 0, none⟩ = some (.slice A0_0 l0_0.length c0_0) ∧ w'.cell? ⟨gb101, 1, none⟩ = some (.slice A0_1 l0_1.length c0_1) ∧ w'.cell? ⟨gb101, 2, none⟩ = some (.slice A0_2 l0_2.length c0_2) ∧ w'.cell? ⟨gb101, 3, none⟩ = some (.slice A0_3 l0_3.length c0_3) ∧ w'.cell? ⟨gb101, 4, none⟩ = some (.int .i64 a0_4)) (ds := []) #[false, false, false, false, false, false, false, false, false, false, false, false, false, false, false, false, false, false, false, false, false, false, false, false, false, false, false, false, false, false, false, false, false, false, false, false, false, false, false, false, false, false, false, false] (by kernel_rfl) rfl rfl ⟨(blk_cell BK101.out 0).trans rfl, (blk_cell BK101.out 1).trans rfl, (blk_cell BK101.out 2).trans rfl, (blk_cell BK101.out 3).trans rfl, (blk_cell BK101.out 4).trans rfl⟩ (fun hHeld => ?_); refine with_tabW ferrulelaw20_HintAts.tab9 ferrulelaw20_HintAts.bits9 (fun HT_ HW_ => ?_)
           generalize wc.drew = w50 at BK101 HB hHeld ⊢
           refine tV 0 35 rfl rfl ?_
           refine tV 2 37 rfl rfl ?_
           refine one_ (i := 1) (N := some 36) #[true, true, true, false, false, false, false, false, false, false, false, false, false, false, false, false, false, false, false, false, false, false, false, false, false, false, false, false, false, false, false, false, false, false, false, false, false, false, false, false, false, false, false, false] rfl rfl (one_of HT_.out (by kernel_rfl)) (by decide) (fun K hK => ?_)
           refine goes_ Try.func16 (by kernel_rfl) rfl #[.agg #[.slice A0_0 l0_0.length c0_0, .slice A0_1 l0_1.length c0_1, .slice A0_2 l0_2.length c0_2, .slice A0_3 l0_3.length c0_3, .int .i64 a0_4]] (by rfl) rfl rfl bM ?_
           with_reducible refine (hint_Good.calls kj16 _ _ l0_0 _ _ l0_1 _ _ l0_2 _ _ l0_3 a0_4 t106 _ ?side1 ?side2 ?side3 ?side4 ?side5 ?side6 ?side7 ?side8 A24.out).mono ?_
           (case side1 => exact sW (Kd.C_below HR0_0.out HB.out))
           (case side2 => exact HC0_0.out)
           (case side3 => exact sW (Kd.C_below HR0_1.out HB.out))
           (case side4 => exact HC0_1.out)
           (case side5 => exact sW (Kd.C_below HR0_2.out HB.out))
           (case side6 => exact HC0_2.out)
           (case side7 => exact sW (Kd.C_below HR0_3.out HB.out))
           (case side8 => exact HC0_3.out)
           rintro e w51 ⟨rfl, hb⟩
           refine ⟨_, rfl, ?_⟩
           replace BK101 := aK BK101 hb
           replace HB := aB HB hb
           (try clear hb)
           (try clear hb2)
           (try clear hk)
           (try clear hi)
           refine hK.out _ _ ⟨(blk_cell BK101.out 0).trans rfl, (blk_cell BK101.out 1).trans rfl, (blk_cell BK101.out 2).trans rfl, (blk_cell BK101.out 3).trans rfl, (blk_cell BK101.out 4).trans rfl⟩ (fun hHeld => ?_)
           clear hK K
           refine norm_ (a' := ?_) ?_ ?_
           rotate_left
           ·show Act.put _ (some 36) _ = _
            simp only [Act.put, List.setIfInBounds_toArray, List.set_cons_zero, List.set_cons_succ, i64_w, i32_w]
            rfl
           refine one_ (i := 3) (N := some 38) #[true, true, true, true, false, false, false, false, false, false, false, false, false, false, false, false, false, false, false, false, false, false, false, false, false, false, false, false, false, false, false, false, false, false, false, false, false, false, false, false, false, false, false, false] rfl rfl (one_of HT_.out (by kernel_rfl)) (by decide) (fun K hK => ?_)
           refine goes_ Try.func17 (by kernel_rfl) rfl #[.agg #[.slice A0_0 l0_0.length c0_0, .slice A0_1 l0_1.length c0_1, .slice A0_2 l0_2.length c0_2, .slice A0_3 l0_3.length c0_3, .int .i64 a0_4]] (by rfl) rfl rfl bM ?_
           with_reducible refine (ferruleref20_Good.calls kj16 _ _ l0_0 _ _ l0_1 _ _ l0_2 _ _ l0_3 a0_4 t107 _ ?side1 ?side2 ?side3 ?side4 ?side5 ?side6 ?side7 ?side8 A25.out).mono ?_
           (case side1 => exact sW (Kd.C_below HR0_0.out HB.out))
           (case side2 => exact HC0_0.out)
           (case side3 => exact sW (Kd.C_below HR0_1.out HB.out))
           (case side4 => exact HC0_1.out)
           (case side5 => exact sW (Kd.C_below HR0_2.out HB.out))
           (case side6 => exact HC0_2.out)
           (case side7 => exact sW (Kd.C_below HR0_3.out HB.out))
           (case side8 => exact HC0_3.out)
           rintro e w52 ⟨rfl, hb⟩
           refine ⟨_, rfl, ?_⟩
           replace BK101 := aK BK101 hb
           replace HB := aB HB hb
           (try clear hb)
           (try clear hb2)
           (try clear hk)
           (try clear hi)
           refine hK.out _ _ ⟨(blk_cell BK101.out 0).trans rfl, (blk_cell BK101.out 1).trans rfl, (blk_cell BK101.out 2).trans rfl, (blk_cell BK101.out 3).trans rfl, (blk_cell BK101.out 4).trans rfl⟩ (fun hHeld => ?_)
           clear hK K
           refine norm_ (a' := ?_) ?_ ?_
           rotate_left
           ·show Act.put _ (some 38) _ = _
            simp only [Act.put, List.setIfInBounds_toArray, List.set_cons_zero, List.set_cons_succ, i64_w, i32_w]
            rfl
           refine pV 4 39 rfl rfl ?_
           refine pV 5 40 rfl rfl ?_
           refine pV 6 41 rfl rfl ?_
           refine pV 8 43 rfl rfl ?_
           refine pV 10 45 rfl rfl ?_
           refine tV 7 42 rfl rfl ?_
           refine one_ (i := 9) (N := some 44) #[true, true, true, true, true, true, true, true, true, true, true, false, false, false, false, false, false, false, false, false, false, false, false, false, false, false, false, false, false, false, false, false, false, false, false, false, false, false, false, false, false, false, false, false] rfl rfl (one_of HT_.out (by kernel_rfl)) (by decide) (fun K hK => ?_)
           refine goes_ Try.func9 (by kernel_rfl) rfl #[.slice A0_0 l0_0.length c0_0, .int .i64 a1] (by rfl) rfl rfl bM ?_
           with_reducible refine (hint_At.calls _ _ l0_0 a1 t108 _ ?side1 ?side2 A27.out).mono ?_
           (case side1 => exact sW (Kd.C_below HR0_0.out HB.out))
           (case side2 => exact HC0_0.out)
           rintro e w' ⟨rfl, ⟨nd, rfl⟩⟩
           refine ⟨_, rfl, ?_⟩
           refine hK.out _ _ ⟨(blk_cell BK101.out 0).trans rfl, (blk_cell BK101.out 1).trans rfl, (blk_cell BK101.out 2).trans rfl, (blk_cell BK101.out 3).trans rfl, (blk_cell BK101.out 4).trans rfl⟩ (fun hHeld => ?_)
           clear hK K
           refine norm_ (a' := ?_) ?_ ?_
           rotate_left
           ·show Act.put _ (some 44) _ = _
            simp only [Act.put, List.setIfInBounds_toArray, List.set_cons_zero, List.set_cons_succ, i64_w, i32_w]
            rfl
           refine pV 11 46 rfl rfl ?_
           refine pV 12 47 rfl rfl ?_
           refine pV 13 48 rfl rfl ?_
           refine pV 14 49 rfl rfl ?_
           refine pV 16 51 rfl rfl ?_
           refine pV 17 52 rfl rfl ?_
           refine pV 19 54 rfl rfl ?_
           refine pV 20 55 rfl rfl ?_
           refine tV 15 50 rfl rfl ?_
           refine tV 21 56 rfl rfl ?_
           refine pV 22 57 rfl rfl ?_
           refine pV 23 58 rfl rfl ?_
           refine one_ (i := 18) (N := some 53) #[true, true, true, true, true, true, true, true, true, true, true, true, true, true, true, true, true, true, true, true, true, true, true, true, false, false, false, false, false, false, false, false, false, false, false, false, false, false, false, false, false, false, false, false] rfl rfl (one_of HT_.out (by kernel_rfl)) (by decide) (fun K hK => ?_)
           refine goes_ Try.func18 (by kernel_rfl) rfl #[.slice A0_0 l0_0.length c0_0, .int .i64 a1, .int .i64 a2] (by rfl) rfl rfl bM ?_
           with_reducible refine (hint_Due.calls _ _ l0_0 a1 a2 t109 _ ?side1 ?side2 A29.out).mono ?_
           (case side1 => exact sW (Kd.C_below HR0_0.out bB))
           (case side2 => exact HC0_0.out)
           rintro e w' ⟨rfl, ⟨nd, rfl⟩⟩
           refine ⟨_, rfl, ?_⟩
           refine hK.out _ _ ⟨(blk_cell BK101.out 0).trans rfl, (blk_cell BK101.out 1).trans rfl, (blk_cell BK101.out 2).trans rfl, (blk_cell BK101.out 3).trans rfl, (blk_cell BK101.out 4).trans rfl⟩ (fun hHeld => ?_)
           clear hK K
           refine norm_ (a' := ?_) ?_ ?_
           rotate_left
           ·show Act.put _ (some 53) _ = _
            simp only [Act.put, List.setIfInBounds_toArray, List.set_cons_zero, List.set_cons_succ, i64_w, i32_w]
            rfl
           refine pV 24 59 rfl rfl ?_
           refine pU 25 60 rfl rfl ?_
           refine pU 26 61 rfl rfl ?_
           refine pV 27 62 rfl rfl ?_
           refine pV 28 63 rfl rfl ?_
           refine pU 29 64 rfl rfl ?_
           refine pU 30 65 rfl rfl ?_
           refine pU 31 66 rfl rfl ?_
           refine pV 32 67 rfl rfl ?_
           refine pV 33 68 rfl rfl ?_
           refine pV 34 69 rfl rfl ?_
           refine pV 35 70 rfl rfl ?_
           refine pV 36 71 rfl rfl ?_
           refine pV 38 73 rfl rfl ?_
           refine pV 40 75 rfl rfl ?_
           refine tV 37 72 rfl rfl ?_
           refine one_ (i := 39) (N := some 74) #[true, true, true, true, true, true, true, true, true, true, true, true, true, true, true, true, true, true, true, true, true, true, true, true, true, true, true, true, true, true, true, true, true, true, true, true, true, true, true, true, true, false, false, false] rfl rfl (one_of HT_.out (by kernel_rfl)) (by decide) (fun K hK => ?_)
           refine goes_ Try.func10 (by kernel_rfl) rfl #[.slice A0_1 l0_1.length c0_1, .int .i64 a1] (by rfl) rfl rfl bM ?_
           with_reducible refine (hint_Sign.calls _ _ l0_1 a1 t112 _ ?side1 ?side2 A49.out).mono ?_
           (case side1 => exact sW (Kd.C_below HR0_1.out bB))
           (case side2 => exact HC0_1.out)
           rintro e w' ⟨rfl, ⟨nd, rfl⟩⟩
           refine ⟨_, rfl, ?_⟩
           refine hK.out _ _ ⟨(blk_cell BK101.out 0).trans rfl, (blk_cell BK101.out 1).trans rfl, (blk_cell BK101.out 2).trans rfl, (blk_cell BK101.out 3).trans rfl, (blk_cell BK101.out 4).trans rfl⟩ (fun hHeld => ?_)
           clear hK K
           refine norm_ (a' := ?_) ?_ ?_
           rotate_left
           ·show Act.put _ (some 74) _ = _
            simp only [Act.put, List.setIfInBounds_toArray, List.set_cons_zero, List.set_cons_succ, i64_w, i32_w]
            rfl
           refine pV 41 76 rfl rfl ?_
           refine pV 42 77 rfl rfl ?_
           refine pV 43 6 rfl rfl ?_
           refine done_ (done_of HT_.out (by kernel_rfl)) ?_
           try go_wp2
           go_ret
           exact ⟨by first | rfl | (simp [errW_none, errW_some] <;> rfl) | (simp [*, errW_none, errW_some] <;> rfl), bB⟩
          ·rw [if_neg c48] at H
           have c48b0 : (t109 == false) = false := by simpa using c48
           (try (have c48b1 : decide (t109 = false) = false := by simpa using c48))
           (try (have c48b2 : (t109 == false) = false := by simpa using c48))
           (try (have c48b3 : ¬ (t109 = false) := by simpa using c48))
           clear c48
           obtain rfl := Option.some.inj H
           try go_wp2
           replace BK101 := Aside0.mk (blk_drew BK101.out)
           replace HB := Aside0.mk (below_drew1 HB.out)
           refine start_ (n := 44) (S := fun w' => w'.cell? ⟨gb101, 0, none⟩ = some (.slice A0_0 l0_0.length c0_0) ∧ w'.cell? ⟨gb101, 1, none⟩ = some (.slice A0_1 l0_1.length c0_1) ∧ w'.cell? ⟨gb101, 2, none⟩ = some (.slice A0_2 l0_2.length c0_2) ∧ w'.cell? ⟨gb101, 3, none⟩ = some (.slice A0_3 l0_3.length c0_3) ∧ w'.cell? ⟨gb101, 4, none⟩ = some (.int .i64 a0_4)) (ds := []) #[false, false, false, false, false, false, false, false, false, false, false, false, false, false, false, false, false, false, false, false, false, false, false, false, false, false, false, false, false, false, false, false, false, false, false, false, false, false, false, false, false, false, false, false] (by kernel_rfl) rfl rfl ⟨(blk_cell BK101.out 0).trans rfl, (blk_cell BK101.out 1).trans rfl, (blk_cell BK101.out 2).trans rfl, (blk_cell BK101.out 3).trans rfl, (blk_cell BK101.out 4).trans rfl⟩ (fun hHeld => ?_); refine with_tabW ferrulelaw20_HintAts.tab9 ferrulelaw20_HintAts.bits9 (fun HT_ HW_ => ?_)
           generalize wc.drew = w53 at BK101 HB hHeld ⊢
           refine tV 0 35 rfl rfl ?_
           refine tV 2 37 rfl rfl ?_
           refine one_ (i := 1) (N := some 36) #[true, true, true, false, false, false, false, false, false, false, false, false, false, false, false, false, false, false, false, false, false, false, false, false, false, false, false, false, false, false, false, false, false, false, false, false, false, false, false, false, false, false, false, false] rfl rfl (one_of HT_.out (by kernel_rfl)) (by decide) (fun K hK => ?_)
           refine goes_ Try.func16 (by kernel_rfl) rfl #[.agg #[.slice A0_0 l0_0.length c0_0, .slice A0_1 l0_1.length c0_1, .slice A0_2 l0_2.length c0_2, .slice A0_3 l0_3.length c0_3, .int .i64 a0_4]] (by rfl) rfl rfl bM ?_
           with_reducible refine (hint_Good.calls kj16 _ _ l0_0 _ _ l0_1 _ _ l0_2 _ _ l0_3 a0_4 t106 _ ?side1 ?side2 ?side3 ?side4 ?side5 ?side6 ?side7 ?side8 A24.out).mono ?_
           (case side1 => exact sW (Kd.C_below HR0_0.out HB.out))
           (case side2 => exact HC0_0.out)
           (case side3 => exact sW (Kd.C_below HR0_1.out HB.out))
           (case side4 => exact HC0_1.out)
           (case side5 => exact sW (Kd.C_below HR0_2.out HB.out))
           (case side6 => exact HC0_2.out)
           (case side7 => exact sW (Kd.C_below HR0_3.out HB.out))
           (case side8 => exact HC0_3.out)
           rintro e w54 ⟨rfl, hb⟩
           refine ⟨_, rfl, ?_⟩
           replace BK101 := aK BK101 hb
           replace HB := aB HB hb
           (try clear hb)
           (try clear hb2)
           (try clear hk)
           (try clear hi)
           refine hK.out _ _ ⟨(blk_cell BK101.out 0).trans rfl, (blk_cell BK101.out 1).trans rfl, (blk_cell BK101.out 2).trans rfl, (blk_cell BK101.out 3).trans rfl, (blk_cell BK101.out 4).trans rfl⟩ (fun hHeld => ?_)
           clear hK K
           refine norm_ (a' := ?_) ?_ ?_
           rotate_left
           ·show Act.put _ (some 36) _ = _
            simp only [Act.put, List.setIfInBounds_toArray, List.set_cons_zero, List.set_cons_succ, i64_w, i32_w]
            rfl
           refine one_ (i := 3) (N := some 38) #[true, true, true, true, false, false, false, false, false, false, false, false, false, false, false, false, false, false, false, false, false, false, false, false, false, false, false, false, false, false, false, false, false, false, false, false, false, false, false, false, false, false, false, false] rfl rfl (one_of HT_.out (by kernel_rfl)) (by decide) (fun K hK => ?_)
           refine goes_ Try.func17 (by kernel_rfl) rfl #[.agg #[.slice A0_0 l0_0.length c0_0, .slice A0_1 l0_1.length c0_1, .slice A0_2 l0_2.length c0_2, .slice A0_3 l0_3.length c0_3, .int .i64 a0_4]] (by rfl) rfl rfl bM ?_
           with_reducible refine (ferruleref20_Good.calls kj16 _ _ l0_0 _ _ l0_1 _ _ l0_2 _ _ l0_3 a0_4 t107 _ ?side1 ?side2 ?side3 ?side4 ?side5 ?side6 ?side7 ?side8 A25.out).mono ?_
           (case side1 => exact sW (Kd.C_below HR0_0.out HB.out))
           (case side2 => exact HC0_0.out)
           (case side3 => exact sW (Kd.C_below HR0_1.out HB.out))
           (case side4 => exact HC0_1.out)
           (case side5 => exact sW (Kd.C_below HR0_2.out HB.out))
           (case side6 => exact HC0_2.out)
           (case side7 => exact sW (Kd.C_below HR0_3.out HB.out))
           (case side8 => exact HC0_3.out)
           rintro e w55 ⟨rfl, hb⟩
           refine ⟨_, rfl, ?_⟩
           replace BK101 := aK BK101 hb
           replace HB := aB HB hb
           (try clear hb)
           (try clear hb2)
           (try clear hk)
           (try clear hi)
           refine hK.out _ _ ⟨(blk_cell BK101.out 0).trans rfl, (blk_cell BK101.out 1).trans rfl, (blk_cell BK101.out 2).trans rfl, (blk_cell BK101.out 3).trans rfl, (blk_cell BK101.out 4).trans rfl⟩ (fun hHeld => ?_)
           clear hK K
           refine norm_ (a' := ?_) ?_ ?_
           rotate_left
           ·show Act.put _ (some 38) _ = _
            simp only [Act.put, List.setIfInBounds_toArray, List.set_cons_zero, List.set_cons_succ, i64_w, i32_w]
            rfl
           refine pV 4 39 rfl rfl ?_
           refine pV 5 40 rfl rfl ?_
           refine pV 6 41 rfl rfl ?_
           refine pV 8 43 rfl rfl ?_
           refine pV 10 45 rfl rfl ?_
           refine tV 7 42 rfl rfl ?_
           refine one_ (i := 9) (N := some 44) #[true, true, true, true, true, true, true, true, true, true, true, false, false, false, false, false, false, false, false, false, false, false, false, false, false, false, false, false, false, false, false, false, false, false, false, false, false, false, false, false, false, false, false, false] rfl rfl (one_of HT_.out (by kernel_rfl)) (by decide) (fun K hK => ?_)
           refine goes_ Try.func9 (by kernel_rfl) rfl #[.slice A0_0 l0_0.length c0_0, .int .i64 a1] (by rfl) rfl rfl bM ?_
           with_reducible refine (hint_At.calls _ _ l0_0 a1 t108 _ ?side1 ?side2 A27.out).mono ?_
           (case side1 => exact sW (Kd.C_below HR0_0.out HB.out))
           (case side2 => exact HC0_0.out)
           rintro e w' ⟨rfl, ⟨nd, rfl⟩⟩
           refine ⟨_, rfl, ?_⟩
           refine hK.out _ _ ⟨(blk_cell BK101.out 0).trans rfl, (blk_cell BK101.out 1).trans rfl, (blk_cell BK101.out 2).trans rfl, (blk_cell BK101.out 3).trans rfl, (blk_cell BK101.out 4).trans rfl⟩ (fun hHeld => ?_)
           clear hK K
           refine norm_ (a' := ?_) ?_ ?_
           rotate_left
           ·show Act.put _ (some 44) _ = _
            simp only [Act.put, List.setIfInBounds_toArray, List.set_cons_zero, List.set_cons_succ, i64_w, i32_w]
            rfl
           refine pV 11 46 rfl rfl ?_
           refine pV 12 47 rfl rfl ?_
           refine pV 13 48 rfl rfl ?_
           refine pV 14 49 rfl rfl ?_
           refine pV 16 51 rfl rfl ?_
           refine pV 17 52 rfl rfl ?_
           refine pV 19 54 rfl rfl ?_
           refine pV 20 55 rfl rfl ?_
           refine tV 15 50 rfl rfl ?_
           refine tV 21 56 rfl rfl ?_
           refine pV 22 57 rfl rfl ?_
           refine pV 23 58 rfl rfl ?_
           refine one_ (i := 18) (N := some 53) #[true, true, true, true, true, true, true, true, true, true, true, true, true, true, true, true, true, true, true, true, true, true, true, true, false, false, false, false, false, false, false, false, false, false, false, false, false, false, false, false, false, false, false, false] rfl rfl (one_of HT_.out (by kernel_rfl)) (by decide) (fun K hK => ?_)
           refine goes_ Try.func18 (by kernel_rfl) rfl #[.slice A0_0 l0_0.length c0_0, .int .i64 a1, .int .i64 a2] (by rfl) rfl rfl bM ?_
           with_reducible refine (hint_Due.calls _ _ l0_0 a1 a2 t109 _ ?side1 ?side2 A29.out).mono ?_
           (case side1 => exact sW (Kd.C_below HR0_0.out bB))
           (case side2 => exact HC0_0.out)
           rintro e w' ⟨rfl, ⟨nd, rfl⟩⟩
           refine ⟨_, rfl, ?_⟩
           refine hK.out _ _ ⟨(blk_cell BK101.out 0).trans rfl, (blk_cell BK101.out 1).trans rfl, (blk_cell BK101.out 2).trans rfl, (blk_cell BK101.out 3).trans rfl, (blk_cell BK101.out 4).trans rfl⟩ (fun hHeld => ?_)
           clear hK K
           refine norm_ (a' := ?_) ?_ ?_
           rotate_left
           ·show Act.put _ (some 53) _ = _
            simp only [Act.put, List.setIfInBounds_toArray, List.set_cons_zero, List.set_cons_succ, i64_w, i32_w]
            rfl
           refine pV 24 59 rfl rfl ?_
           refine pU 25 60 rfl rfl ?_
           refine pU 26 61 rfl rfl ?_
           refine pV 27 62 rfl rfl ?_
           refine pV 28 63 rfl rfl ?_
           refine pU 29 64 rfl rfl ?_
           refine pU 30 65 rfl rfl ?_
           refine pU 31 66 rfl rfl ?_
           refine pV 32 67 rfl rfl ?_
           refine pV 33 68 rfl rfl ?_
           refine pV 34 69 rfl rfl ?_
           refine pV 35 70 rfl rfl ?_
           refine pU 36 71 rfl rfl ?_
           refine pU 37 72 rfl rfl ?_
           refine pU 38 73 rfl rfl ?_
           refine pU 39 74 rfl rfl ?_
           refine pU 40 75 rfl rfl ?_
           refine pU 41 76 rfl rfl ?_
           refine pV 42 77 rfl rfl ?_
           refine pV 43 6 rfl rfl ?_
           refine done_ (done_of HT_.out (by kernel_rfl)) ?_
           try go_wp2
           go_ret
           exact ⟨by first | rfl | (simp [errW_none, errW_some] <;> rfl) | (simp [*, errW_none, errW_some] <;> rfl), bB⟩
        ·rw [if_neg c28] at H
         have c28b0 : (t108 == t104) = false := beq_eq_false_iff_ne.mpr c28
         have c28b1 : (t108 != t104) = true := bne_iff_ne.mpr c28
         obtain rfl := Option.some.inj H
         try go_wp2
         replace BK101 := Aside0.mk (blk_drew BK101.out)
         replace HB := Aside0.mk (below_drew1 HB.out)
         refine start_ (n := 44) (S := fun w' => w'.cell? ⟨gb101, 0, none⟩ = some (.slice A0_0 l0_0.length c0_0) ∧ w'.cell? ⟨gb101, 1, none⟩ = some (.slice A0_1 l0_1.length c0_1) ∧ w'.cell? ⟨gb101, 2, none⟩ = some (.slice A0_2 l0_2.length c0_2) ∧ w'.cell? ⟨gb101, 3, none⟩ = some (.slice A0_3 l0_3.length c0_3) ∧ w'.cell? ⟨gb101, 4, none⟩ = some (.int .i64 a0_4)) (ds := []) #[false, false, false, false, false, false, false, false, false, false, false, false, false, false, false, false, false, false, false, false, false, false, false, false, false, false, false, false, false, false, false, false, false, false, false, false, false, false, false, false, false, false, false, false] (by kernel_rfl) rfl rfl ⟨(blk_cell BK101.out 0).trans rfl, (blk_cell BK101.out 1).trans rfl, (blk_cell BK101.out 2).trans rfl, (blk_cell BK101.out 3).trans rfl, (blk_cell BK101.out 4).trans rfl⟩ (fun hHeld => ?_); refine with_tabW ferrulelaw20_HintAts.tab9 ferrulelaw20_HintAts.bits9 (fun HT_ HW_ => ?_)
         generalize wc.drew = w56 at BK101 HB hHeld ⊢
         refine tV 0 35 rfl rfl ?_
         refine tV 2 37 rfl rfl ?_
         refine one_ (i := 1) (N := some 36) #[true, true, true, false, false, false, false, false, false, false, false, false, false, false, false, false, false, false, false, false, false, false, false, false, false, false, false, false, false, false, false, false, false, false, false, false, false, false, false, false, false, false, false, false] rfl rfl (one_of HT_.out (by kernel_rfl)) (by decide) (fun K hK => ?_)
         refine goes_ Try.func16 (by kernel_rfl) rfl #[.agg #[.slice A0_0 l0_0.length c0_0, .slice A0_1 l0_1.length c0_1, .slice A0_2 l0_2.length c0_2, .slice A0_3 l0_3.length c0_3, .int .i64 a0_4]] (by rfl) rfl rfl bM ?_
         with_reducible refine (hint_Good.calls kj16 _ _ l0_0 _ _ l0_1 _ _ l0_2 _ _ l0_3 a0_4 t106 _ ?side1 ?side2 ?side3 ?side4 ?side5 ?side6 ?side7 ?side8 A24.out).mono ?_
         (case side1 => exact sW (Kd.C_below HR0_0.out HB.out))
         (case side2 => exact HC0_0.out)
         (case side3 => exact sW (Kd.C_below HR0_1.out HB.out))
         (case side4 => exact HC0_1.out)
         (case side5 => exact sW (Kd.C_below HR0_2.out HB.out))
         (case side6 => exact HC0_2.out)
         (case side7 => exact sW (Kd.C_below HR0_3.out HB.out))
         (case side8 => exact HC0_3.out)
         rintro e w57 ⟨rfl, hb⟩
         refine ⟨_, rfl, ?_⟩
         replace BK101 := aK BK101 hb
         replace HB := aB HB hb
         (try clear hb)
         (try clear hb2)
         (try clear hk)
         (try clear hi)
         refine hK.out _ _ ⟨(blk_cell BK101.out 0).trans rfl, (blk_cell BK101.out 1).trans rfl, (blk_cell BK101.out 2).trans rfl, (blk_cell BK101.out 3).trans rfl, (blk_cell BK101.out 4).trans rfl⟩ (fun hHeld => ?_)
         clear hK K
         refine norm_ (a' := ?_) ?_ ?_
         rotate_left
         ·show Act.put _ (some 36) _ = _
          simp only [Act.put, List.setIfInBounds_toArray, List.set_cons_zero, List.set_cons_succ, i64_w, i32_w]
          rfl
         refine one_ (i := 3) (N := some 38) #[true, true, true, true, false, false, false, false, false, false, false, false, false, false, false, false, false, false, false, false, false, false, false, false, false, false, false, false, false, false, false, false, false, false, false, false, false, false, false, false, false, false, false, false] rfl rfl (one_of HT_.out (by kernel_rfl)) (by decide) (fun K hK => ?_)
         refine goes_ Try.func17 (by kernel_rfl) rfl #[.agg #[.slice A0_0 l0_0.length c0_0, .slice A0_1 l0_1.length c0_1, .slice A0_2 l0_2.length c0_2, .slice A0_3 l0_3.length c0_3, .int .i64 a0_4]] (by rfl) rfl rfl bM ?_
         with_reducible refine (ferruleref20_Good.calls kj16 _ _ l0_0 _ _ l0_1 _ _ l0_2 _ _ l0_3 a0_4 t107 _ ?side1 ?side2 ?side3 ?side4 ?side5 ?side6 ?side7 ?side8 A25.out).mono ?_
         (case side1 => exact sW (Kd.C_below HR0_0.out HB.out))
         (case side2 => exact HC0_0.out)
         (case side3 => exact sW (Kd.C_below HR0_1.out HB.out))
         (case side4 => exact HC0_1.out)
         (case side5 => exact sW (Kd.C_below HR0_2.out HB.out))
         (case side6 => exact HC0_2.out)
         (case side7 => exact sW (Kd.C_below HR0_3.out HB.out))
         (case side8 => exact HC0_3.out)
         rintro e w58 ⟨rfl, hb⟩
         refine ⟨_, rfl, ?_⟩
         replace BK101 := aK BK101 hb
         replace HB := aB HB hb
         (try clear hb)
         (try clear hb2)
         (try clear hk)
         (try clear hi)
         refine hK.out _ _ ⟨(blk_cell BK101.out 0).trans rfl, (blk_cell BK101.out 1).trans rfl, (blk_cell BK101.out 2).trans rfl, (blk_cell BK101.out 3).trans rfl, (blk_cell BK101.out 4).trans rfl⟩ (fun hHeld => ?_)
         clear hK K
         refine norm_ (a' := ?_) ?_ ?_
         rotate_left
         ·show Act.put _ (some 38) _ = _
          simp only [Act.put, List.setIfInBounds_toArray, List.set_cons_zero, List.set_cons_succ, i64_w, i32_w]
          rfl
         refine pV 4 39 rfl rfl ?_
         refine pV 5 40 rfl rfl ?_
         refine pV 6 41 rfl rfl ?_
         refine pV 8 43 rfl rfl ?_
         refine pV 10 45 rfl rfl ?_
         refine tV 7 42 rfl rfl ?_
         refine one_ (i := 9) (N := some 44) #[true, true, true, true, true, true, true, true, true, true, true, false, false, false, false, false, false, false, false, false, false, false, false, false, false, false, false, false, false, false, false, false, false, false, false, false, false, false, false, false, false, false, false, false] rfl rfl (one_of HT_.out (by kernel_rfl)) (by decide) (fun K hK => ?_)
         refine goes_ Try.func9 (by kernel_rfl) rfl #[.slice A0_0 l0_0.length c0_0, .int .i64 a1] (by rfl) rfl rfl bM ?_
         with_reducible refine (hint_At.calls _ _ l0_0 a1 t108 _ ?side1 ?side2 A27.out).mono ?_
         (case side1 => exact sW (Kd.C_below HR0_0.out HB.out))
         (case side2 => exact HC0_0.out)
         rintro e w' ⟨rfl, ⟨nd, rfl⟩⟩
         refine ⟨_, rfl, ?_⟩
         refine hK.out _ _ ⟨(blk_cell BK101.out 0).trans rfl, (blk_cell BK101.out 1).trans rfl, (blk_cell BK101.out 2).trans rfl, (blk_cell BK101.out 3).trans rfl, (blk_cell BK101.out 4).trans rfl⟩ (fun hHeld => ?_)
         clear hK K
         refine norm_ (a' := ?_) ?_ ?_
         rotate_left
         ·show Act.put _ (some 44) _ = _
          simp only [Act.put, List.setIfInBounds_toArray, List.set_cons_zero, List.set_cons_succ, i64_w, i32_w]
          rfl
         refine pV 11 46 rfl rfl ?_
         refine pV 12 47 rfl rfl ?_
         refine pV 13 48 rfl rfl ?_
         refine pU 14 49 rfl rfl ?_
         refine pU 15 50 rfl rfl ?_
         refine pU 16 51 rfl rfl ?_
         refine pU 17 52 rfl rfl ?_
         refine pU 18 53 rfl rfl ?_
         refine pU 19 54 rfl rfl ?_
         refine pU 20 55 rfl rfl ?_
         refine pU 21 56 rfl rfl ?_
         refine pU 22 57 rfl rfl ?_
         refine pU 23 58 rfl rfl ?_
         refine pU 24 59 rfl rfl ?_
         refine pU 25 60 rfl rfl ?_
         refine pU 26 61 rfl rfl ?_
         refine pU 27 62 rfl rfl ?_
         refine pU 28 63 rfl rfl ?_
         refine pU 29 64 rfl rfl ?_
         refine pU 30 65 rfl rfl ?_
         refine pU 31 66 rfl rfl ?_
         refine pU 32 67 rfl rfl ?_
         refine pU 33 68 rfl rfl ?_
         refine pV 34 69 rfl rfl ?_
         refine pV 35 70 rfl rfl ?_
         refine pU 36 71 rfl rfl ?_
         refine pU 37 72 rfl rfl ?_
         refine pU 38 73 rfl rfl ?_
         refine pU 39 74 rfl rfl ?_
         refine pU 40 75 rfl rfl ?_
         refine pU 41 76 rfl rfl ?_
         refine pV 42 77 rfl rfl ?_
         refine pV 43 6 rfl rfl ?_
         refine done_ (done_of HT_.out (by kernel_rfl)) ?_
         try go_wp2
         go_ret
         exact ⟨by first | rfl | (simp [errW_none, errW_some] <;> rfl) | (simp [*, errW_none, errW_some] <;> rfl), bB⟩
       ·rw [if_neg c26] at H
        have c26b0 : (t106 == t107) = false := by simpa using c26
        (try (have c26b1 : decide (t106 = t107) = false := by simpa using c26))
        (try (have c26b2 : (t106 == t107) = false := by simpa using c26))
        (try (have c26b3 : ¬ (t106 = t107) := by simpa using c26))
        clear c26
        obtain rfl := Option.some.inj H
        try go_wp2
        replace BK101 := Aside0.mk (blk_drew BK101.out)
        replace HB := Aside0.mk (below_drew1 HB.out)
        refine start_ (n := 44) (S := fun w' => w'.cell? ⟨gb101, 0, none⟩ = some (.slice A0_0 l0_0.length c0_0) ∧ w'.cell? ⟨gb101, 1, none⟩ = some (.slice A0_1 l0_1.length c0_1) ∧ w'.cell? ⟨gb101, 2, none⟩ = some (.slice A0_2 l0_2.length c0_2) ∧ w'.cell? ⟨gb101, 3, none⟩ = some (.slice A0_3 l0_3.length c0_3) ∧ w'.cell? ⟨gb101, 4, none⟩ = some (.int .i64 a0_4)) (ds := []) #[false, false, false, false, false, false, false, false, false, false, false, false, false, false, false, false, false, false, false, false, false, false, false, false, false, false, false, false, false, false, false, false, false, false, false, false, false, false, false, false, false, false, false, false] (by kernel_rfl) rfl rfl ⟨(blk_cell BK101.out 0).trans rfl, (blk_cell BK101.out 1).trans rfl, (blk_cell BK101.out 2).trans rfl, (blk_cell BK101.out 3).trans rfl, (blk_cell BK101.out 4).trans rfl⟩ (fun hHeld => ?_); refine with_tabW ferrulelaw20_HintAts.tab9 ferrulelaw20_HintAts.bits9 (fun HT_ HW_ => ?_)
        generalize wc.drew = w59 at BK101 HB hHeld ⊢
        refine tV 0 35 rfl rfl ?_
        refine tV 2 37 rfl rfl ?_
        refine one_ (i := 1) (N := some 36) #[true, true, true, false, false, false, false, false, false, false, false, false, false, false, false, false, false, false, false, false, false, false, false, false, false, false, false, false, false, false, false, false, false, false, false, false, false, false, false, false, false, false, false, false] rfl rfl (one_of HT_.out (by kernel_rfl)) (by decide) (fun K hK => ?_)
        refine goes_ Try.func16 (by kernel_rfl) rfl #[.agg #[.slice A0_0 l0_0.length c0_0, .slice A0_1 l0_1.length c0_1, .slice A0_2 l0_2.length c0_2, .slice A0_3 l0_3.length c0_3, .int .i64 a0_4]] (by rfl) rfl rfl bM ?_
        with_reducible refine (hint_Good.calls kj16 _ _ l0_0 _ _ l0_1 _ _ l0_2 _ _ l0_3 a0_4 t106 _ ?side1 ?side2 ?side3 ?side4 ?side5 ?side6 ?side7 ?side8 A24.out).mono ?_
        (case side1 => exact sW (Kd.C_below HR0_0.out HB.out))
        (case side2 => exact HC0_0.out)
        (case side3 => exact sW (Kd.C_below HR0_1.out HB.out))
        (case side4 => exact HC0_1.out)
        (case side5 => exact sW (Kd.C_below HR0_2.out HB.out))
        (case side6 => exact HC0_2.out)
        (case side7 => exact sW (Kd.C_below HR0_3.out HB.out))
        (case side8 => exact HC0_3.out)
        rintro e w60 ⟨rfl, hb⟩
        refine ⟨_, rfl, ?_⟩
        replace BK101 := aK BK101 hb
        replace HB := aB HB hb
        (try clear hb)
        (try clear hb2)
        (try clear hk)
        (try clear hi)
        refine hK.out _ _ ⟨(blk_cell BK101.out 0).trans rfl, (blk_cell BK101.out 1).trans rfl, (blk_cell BK101.out 2).trans rfl, (blk_cell BK101.out 3).trans rfl, (blk_cell BK101.out 4).trans rfl⟩ (fun hHeld => ?_)
        clear hK K
        refine norm_ (a' := ?_) ?_ ?_
        rotate_left
        ·show Act.put _ (some 36) _ = _
         simp only [Act.put, List.setIfInBounds_toArray, List.set_cons_zero, List.set_cons_succ, i64_w, i32_w]
         rfl
        refine one_ (i := 3) (N := some 38) #[true, true, true, true, false, false, false, false, false, false, false, false, false, false, false, false, false, false, false, false, false, false, false, false, false, false, false, false, false, false, false, false, false, false, false, false, false, false, false, false, false, false, false, false] rfl rfl (one_of HT_.out (by kernel_rfl)) (by decide) (fun K hK => ?_)
        refine goes_ Try.func17 (by kernel_rfl) rfl #[.agg #[.slice A0_0 l0_0.length c0_0, .slice A0_1 l0_1.length c0_1, .slice A0_2 l0_2.length c0_2, .slice A0_3 l0_3.length c0_3, .int .i64 a0_4]] (by rfl) rfl rfl bM ?_
        with_reducible refine (ferruleref20_Good.calls kj16 _ _ l0_0 _ _ l0_1 _ _ l0_2 _ _ l0_3 a0_4 t107 _ ?side1 ?side2 ?side3 ?side4 ?side5 ?side6 ?side7 ?side8 A25.out).mono ?_
        (case side1 => exact sW (Kd.C_below HR0_0.out HB.out))
        (case side2 => exact HC0_0.out)
        (case side3 => exact sW (Kd.C_below HR0_1.out HB.out))
        (case side4 => exact HC0_1.out)
        (case side5 => exact sW (Kd.C_below HR0_2.out HB.out))
        (case side6 => exact HC0_2.out)
        (case side7 => exact sW (Kd.C_below HR0_3.out HB.out))
        (case side8 => exact HC0_3.out)
        rintro e w61 ⟨rfl, hb⟩
        refine ⟨_, rfl, ?_⟩
        replace BK101 := aK BK101 hb
        replace HB := aB HB hb
        (try clear hb)
        (try clear hb2)
        (try clear hk)
        (try clear hi)
        refine hK.out _ _ ⟨(blk_cell BK101.out 0).trans rfl, (blk_cell BK101.out 1).trans rfl, (blk_cell BK101.out 2).trans rfl, (blk_cell BK101.out 3).trans rfl, (blk_cell BK101.out 4).trans rfl⟩ (fun hHeld => ?_)
        clear hK K
        refine norm_ (a' := ?_) ?_ ?_
        rotate_left
        ·show Act.put _ (some 38) _ = _
         simp only [Act.put, List.setIfInBounds_toArray, List.set_cons_zero, List.set_cons_succ, i64_w, i32_w]
         rfl
        refine pV 4 39 rfl rfl ?_
        refine pV 5 40 rfl rfl ?_
        refine pU 6 41 rfl rfl ?_
        refine pU 7 42 rfl rfl ?_
        refine pU 8 43 rfl rfl ?_
        refine pU 9 44 rfl rfl ?_
        refine pU 10 45 rfl rfl ?_
        refine pU 11 46 rfl rfl ?_
        refine pV 12 47 rfl rfl ?_
        refine pV 13 48 rfl rfl ?_
        refine pU 14 49 rfl rfl ?_
        refine pU 15 50 rfl rfl ?_
        refine pU 16 51 rfl rfl ?_
        refine pU 17 52 rfl rfl ?_
        refine pU 18 53 rfl rfl ?_
        refine pU 19 54 rfl rfl ?_
        refine pU 20 55 rfl rfl ?_
        refine pU 21 56 rfl rfl ?_
        refine pU 22 57 rfl rfl ?_
        refine pU 23 58 rfl rfl ?_
        refine pU 24 59 rfl rfl ?_
        refine pU 25 60 rfl rfl ?_
        refine pU 26 61 rfl rfl ?_
        refine pU 27 62 rfl rfl ?_
        refine pU 28 63 rfl rfl ?_
        refine pU 29 64 rfl rfl ?_
        refine pU 30 65 rfl rfl ?_
        refine pU 31 66 rfl rfl ?_
        refine pU 32 67 rfl rfl ?_
        refine pU 33 68 rfl rfl ?_
        refine pV 34 69 rfl rfl ?_
        refine pV 35 70 rfl rfl ?_
        refine pU 36 71 rfl rfl ?_
        refine pU 37 72 rfl rfl ?_
        refine pU 38 73 rfl rfl ?_
        refine pU 39 74 rfl rfl ?_
        refine pU 40 75 rfl rfl ?_
        refine pU 41 76 rfl rfl ?_
        refine pV 42 77 rfl rfl ?_
        refine pV 43 6 rfl rfl ?_
        refine done_ (done_of HT_.out (by kernel_rfl)) ?_
        try go_wp2
        go_ret
        exact ⟨by first | rfl | (simp [errW_none, errW_some] <;> rfl) | (simp [*, errW_none, errW_some] <;> rfl), bB⟩
  ·replace c7 := Bool.eq_false_iff.mpr c7
   subst c7
   have H1 : (some true) = some r := by rw [if_neg (show ¬ (false = true) by decide)] at H; exact H
   clear H
   have H := H1
   clear H1
   obtain rfl := Option.some.inj H
   go_enter Try.func6, Try.ntmps6
   go_wp2_with (first | ((with_reducible refine gate_dst (N := 3) rfl ?_); (try (refine gate_guard (by rfl) ?_; dsimp only)); refine box_event ?hg (N := 3) ?hd (cs := #[.slice A0_0 l0_0.length c0_0, .slice A0_1 l0_1.length c0_1, .slice A0_2 l0_2.length c0_2, .slice A0_3 l0_3.length c0_3, .int .i64 a0_4]) (t := 40) ?hr ?_; (case hd => rfl); (case hg => rfl); (case hr => first | (go_simp; done) | (go_simp; rfl)); intro gb101 hg w62 hbox hb; have BK101 := Aside0.mk hbox; have GW101 := Aside0.mk ((by rw [hg]; exact (below_size bB) : w.heap.size ≤ gb101)); have GE101 := Aside0.mk ((by rw [hg]; exact (below_size bB) : w.heap.size ≤ gb101)); replace HB := aB HB hb; clear hb hbox hg) | ((with_reducible refine gate_callee (f := 8) rfl ?_); refine goesL_ (some 9) rfl rfl Try.func8 (by kernel_rfl) rfl #[] rfl bM ?_; (with_reducible refine (ferrulelaw20_awake.calls  true _ A4.out).mono ?_); rintro e w63 ⟨rfl, hb⟩; refine ⟨_, rfl, ?_⟩; replace BK101 := aK BK101 hb; replace HB := aB HB hb; (try clear hb); (try clear hb2); (try clear hk); (try clear hi); have hcz64_0 : w63.cell? ⟨gb101, 0, none⟩ = some (.slice A0_0 l0_0.length c0_0) := (blk_cell BK101.out 0).trans rfl; have hcz64_1 : w63.cell? ⟨gb101, 1, none⟩ = some (.slice A0_1 l0_1.length c0_1) := (blk_cell BK101.out 1).trans rfl; have hcz64_2 : w63.cell? ⟨gb101, 2, none⟩ = some (.slice A0_2 l0_2.length c0_2) := (blk_cell BK101.out 2).trans rfl; have hcz64_3 : w63.cell? ⟨gb101, 3, none⟩ = some (.slice A0_3 l0_3.length c0_3) := (blk_cell BK101.out 3).trans rfl; have hcz64_4 : w63.cell? ⟨gb101, 4, none⟩ = some (.int .i64 a0_4) := (blk_cell BK101.out 4).trans rfl; have hfz64_0 := blk_frozen BK101.out 0; have hfz64_1 := blk_frozen BK101.out 1; have hfz64_2 := blk_frozen BK101.out 2; have hfz64_3 := blk_frozen BK101.out 3; have hfz64_4 := blk_frozen BK101.out 4) | ((with_reducible refine gate_callee (f := 14) rfl ?_); refine goesL_ (some 12) rfl rfl Try.func14 (by kernel_rfl) rfl #[.agg #[.slice A0_0 l0_0.length c0_0, .slice A0_1 l0_1.length c0_1, .slice A0_2 l0_2.length c0_2, .slice A0_3 l0_3.length c0_3, .int .i64 a0_4]] rfl bM ?_; (with_reducible refine (ferrulelaw20_few.calls _ _ l0_0 _ _ l0_1 _ _ l0_2 _ _ l0_3 a0_4 false _ ?side1 ?side2 ?side3 ?side4 ?side5 ?side6 ?side7 ?side8 A6.out).mono ?_); (case side1 => exact sW (Kd.C_below HR0_0.out HB.out)); (case side2 => exact HC0_0.out); (case side3 => exact sW (Kd.C_below HR0_1.out HB.out)); (case side4 => exact HC0_1.out); (case side5 => exact sW (Kd.C_below HR0_2.out HB.out)); (case side6 => exact HC0_2.out); (case side7 => exact sW (Kd.C_below HR0_3.out HB.out)); (case side8 => exact HC0_3.out); rintro e w65 ⟨rfl, hb⟩; refine ⟨_, rfl, ?_⟩; replace BK101 := aK BK101 hb; replace HB := aB HB hb; (try clear hb); (try clear hb2); (try clear hk); (try clear hi)))
   go_ret
   exact ⟨by first | rfl | (simp [errW_none, errW_some] <;> rfl) | (simp [*, errW_none, errW_some] <;> rfl), bB⟩
 ·replace c5 := Bool.eq_false_iff.mpr c5
  subst c5
  have H1 : (some false) = some r := by rw [if_neg (show ¬ (false = true) by decide)] at H; exact H
  clear H
  have H := H1
  clear H1
  obtain rfl := Option.some.inj H
  go_enter Try.func6, Try.ntmps6
  go_wp2_with (first | ((with_reducible refine gate_dst (N := 3) rfl ?_); (try (refine gate_guard (by rfl) ?_; dsimp only)); refine box_event ?hg (N := 3) ?hd (cs := #[.slice A0_0 l0_0.length c0_0, .slice A0_1 l0_1.length c0_1, .slice A0_2 l0_2.length c0_2, .slice A0_3 l0_3.length c0_3, .int .i64 a0_4]) (t := 40) ?hr ?_; (case hd => rfl); (case hg => rfl); (case hr => first | (go_simp; done) | (go_simp; rfl)); intro gb101 hg w66 hbox hb; have BK101 := Aside0.mk hbox; have GW101 := Aside0.mk ((by rw [hg]; exact (below_size bB) : w.heap.size ≤ gb101)); have GE101 := Aside0.mk ((by rw [hg]; exact (below_size bB) : w.heap.size ≤ gb101)); replace HB := aB HB hb; clear hb hbox hg) | ((with_reducible refine gate_callee (f := 8) rfl ?_); refine goesL_ (some 9) rfl rfl Try.func8 (by kernel_rfl) rfl #[] rfl bM ?_; (with_reducible refine (ferrulelaw20_awake.calls  false _ A4.out).mono ?_); rintro e w67 ⟨rfl, hb⟩; refine ⟨_, rfl, ?_⟩; replace BK101 := aK BK101 hb; replace HB := aB HB hb; (try clear hb); (try clear hb2); (try clear hk); (try clear hi)))
  go_ret
  exact ⟨by first | rfl | (simp [errW_none, errW_some] <;> rfl) | (simp [*, errW_none, errW_some] <;> rfl), bB⟩

def ferrulelaw20_HintAts.Pure : Prop := ∀ (l0_0 : List Int) (l0_1 : List Bool) (l0_2 : List Int) (l0_3 : List Int) (a0_4 : Int) (a1 : Int) (a2 : Int), (fun l : (List Int) => l.length ≤ maxLen ∧ ∀ x ∈ l, (fun x : Int => (Lit.int .i64 x).wf = true) x) l0_0 → (fun l : (List Bool) => l.length ≤ maxLen ∧ ∀ x ∈ l, (fun _ : Bool => True) x) l0_1 → (fun l : (List Int) => l.length ≤ maxLen ∧ ∀ x ∈ l, (fun x : Int => (Lit.int .i64 x).wf = true) x) l0_2 → (fun l : (List Int) => l.length ≤ maxLen ∧ ∀ x ∈ l, (fun x : Int => (Lit.int .i64 x).wf = true) x) l0_3 → (Lit.int .i64 a0_4).wf = true → (Lit.int .i64 a1).wf = true → (Lit.int .i64 a2).wf = true → ∃ k, ferrulelaw20_HintAts.f k l0_0 l0_1 l0_2 l0_3 a0_4 a1 a2 = some true

end Go.Proofs.Ytaocceijkiiciaa.X
