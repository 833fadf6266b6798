-- Written by a program of this session (wip/xp), out of the translation. Not trusted: Lean checks it.
import Derived.Test.YtildmfegfkiknaaDoorTab
import Derived.Test.YtildmfegfkiknaaDoorX0
import Derived.Test.YtildmfegfkiknaaDoorXn35
import Derived.Test.YtildmfegfkiknaaDoorXn32
import Derived.Test.YtildmfegfkiknaaDoorXn37
import Derived.Test.YtildmfegfkiknaaDoorXn46
import Derived.Test.YtildmfegfkiknaaDoorXn27
import Derived.Test.YtildmfegfkiknaaDoorXn30
import Derived.Test.YtildmfegfkiknaaDoorXn43
import Derived.Test.YtildmfegfkiknaaDoorXn44
import Derived.Test.YtildmfegfkiknaaDoorXn45
-- shrunk
namespace Go.Proofs.YtildmfegfkiknaaDoor.X
open Go.RowKit Go.Proofs.YtildmfegfkiknaaDoorW.PrintWords Go.Proofs.YtildmfegfkiknaaDoorW.PrintLast Go.Proofs.YtildmfegfkiknaaDoorW.PrintMore
attribute [local go_sem] Lab.str_gtr Lab.str_leq Lab.str_geq max2_int min2_int max_two min_two max_three min_three max_four min_four   -- for this text's walks alone
set_option linter.unusedVariables false
set_option linter.unusedSimpArgs false

/-! ### ferrulelaw03_SemverTexts: function 12 -/
mutual
def ferrulelaw03_SemverTexts.j0 : Nat → Bool → Int → Int → Int → List ByteArray → List ByteArray → Int → Int → Int → List ByteArray → List ByteArray → Option (Bool)
 | 0, _, _, _, _, _, _, _, _, _, _, _ => none
 | k + 1, x19, x102000, x102001, x102002, x102003, x102004, x103000, x103001, x103002, x103003, x103004 => if x19 = true then (some true) else ((semver_Text.f x102000 x102001 x102002 x102003 x102004).bind fun t106 => ((semver_Good.f k x102000 x102001 x102002 x102003 x102004).bind fun t107 => ((ferruleref03_Text.f k x102000 x102001 x102002 x102003 x102004).bind fun t108 => (if t106.toList = t108.toList then ((ferruleref03_Good.f k x102000 x102001 x102002 x102003 x102004).bind fun t109 => (if (t107 != t109) = true then (ferrulelaw03_SemverTexts.j1 k t106 t107 true x102000 x102001 x102002 x102003 x102004) else ((semver_Same.f k x102000 x102001 x102002 x102003 x102004 x103000 x103001 x103002 x103003 x103004).bind fun t110 => ((ferruleref03_Same.f k x102000 x102001 x102002 x102003 x102004 x103000 x103001 x103002 x103003 x103004).bind fun t111 => (if (t110 != t111) = true then (ferrulelaw03_SemverTexts.j1 k t106 t107 true x102000 x102001 x102002 x102003 x102004) else ((semver_Same.f k x102000 x102001 x102002 x102003 x102004 x102000 x102001 x102002 x102003 x102004).bind fun t112 => (ferrulelaw03_SemverTexts.j1 k t106 t107 (!t112) x102000 x102001 x102002 x102003 x102004))))))) else (ferrulelaw03_SemverTexts.j1 k t106 t107 true x102000 x102001 x102002 x102003 x102004)))))
def ferrulelaw03_SemverTexts.j1 : Nat → ByteArray → Bool → Bool → Int → Int → Int → List ByteArray → List ByteArray → Option (Bool)
 | 0, _, _, _, _, _, _, _, _ => none
 | k + 1, x5, x6, x48, x102000, x102001, x102002, x102003, x102004 => if x48 = true then (some false) else (if x6 = true then ((semver_Read.f k x5).bind fun bt113 => (if bt113.2.2.2.2.2.2 = 0 then ((ferruleref03_Same.f k bt113.1 bt113.2.1 bt113.2.2.1 bt113.2.2.2.1 bt113.2.2.2.2.1 x102000 x102001 x102002 x102003 x102004).bind fun t125 => (some t125)) else (some false))) else (some true))
end
def ferrulelaw03_SemverTexts.f (k : Nat) (a0_0 : Int) (a0_1 : Int) (a0_2 : Int) (l0_3 : List ByteArray) (l0_4 : List ByteArray) (a1_0 : Int) (a1_1 : Int) (a1_2 : Int) (l1_3 : List ByteArray) (l1_4 : List ByteArray) : Option (Bool) := (ferrulelaw03_awake.f k).bind fun t103 => (if t103 = true then ((ferrulelaw03_short.f k a0_0 a0_1 a0_2 l0_3 l0_4).bind fun t104 => (if t104 = true then ((ferrulelaw03_short.f k a1_0 a1_1 a1_2 l1_3 l1_4).bind fun t105 => (ferrulelaw03_SemverTexts.j0 k (!t105) a0_0 a0_1 a0_2 l0_3 l0_4 a1_0 a1_1 a1_2 l1_3 l1_4)) else (ferrulelaw03_SemverTexts.j0 k true a0_0 a0_1 a0_2 l0_3 l0_4 a1_0 a1_1 a1_2 l1_3 l1_4))) else (some false))
theorem ferrulelaw03_SemverTexts.mono_l : ∀ k, (∀ y0 y1 y2 y3 y4 y5 y6 y7 y8 y9 y10, LeO (ferrulelaw03_SemverTexts.j0 k y0 y1 y2 y3 y4 y5 y6 y7 y8 y9 y10) (ferrulelaw03_SemverTexts.j0 (k + 1) y0 y1 y2 y3 y4 y5 y6 y7 y8 y9 y10)) ∧ (∀ y0 y1 y2 y3 y4 y5 y6 y7, LeO (ferrulelaw03_SemverTexts.j1 k y0 y1 y2 y3 y4 y5 y6 y7) (ferrulelaw03_SemverTexts.j1 (k + 1) y0 y1 y2 y3 y4 y5 y6 y7))
 | 0 => ⟨fun _ _ _ _ _ _ _ _ _ _ _ r h => by simp [ferrulelaw03_SemverTexts.j0] at h, fun _ _ _ _ _ _ _ _ r h => by simp [ferrulelaw03_SemverTexts.j1] at h⟩
 | k + 1 => by
  obtain ⟨ih0, ih1⟩ := ferrulelaw03_SemverTexts.mono_l k
  refine ⟨?_, ?_⟩
  ·intro y0 y1 y2 y3 y4 y5 y6 y7 y8 y9 y10
   unfold ferrulelaw03_SemverTexts.j0
   repeat' first
   | (with_reducible exact ih0 _ _ _ _ _ _ _ _ _ _ _)
   | (with_reducible exact ih1 _ _ _ _ _ _ _ _)
   | (with_reducible exact ferrulelaw03_awake.mono _)
   | (with_reducible exact ferrulelaw03_short.mono _ _ _ _ _ _)
   | (with_reducible exact ferruleref03_Good.mono _ _ _ _ _ _)
   | (with_reducible exact ferruleref03_Same.mono _ _ _ _ _ _ _ _ _ _ _)
   | (with_reducible exact ferruleref03_Text.mono _ _ _ _ _ _)
   | (with_reducible exact semver_Good.mono _ _ _ _ _ _)
   | (with_reducible exact semver_Read.mono _ _)
   | (with_reducible exact semver_Same.mono _ _ _ _ _ _ _ _ _ _ _)
   | (with_reducible exact LeO.refl _)
   | (with_reducible exact LeO.none _)
   | (with_reducible refine LeO.ite ?_ ?_)
   | (with_reducible refine LeO.bind ?_ (fun _ => ?_))
   | exact ih0 _ _ _ _ _ _ _ _ _ _ _
   | exact ih1 _ _ _ _ _ _ _ _
   | exact ferrulelaw03_awake.mono _
   | exact ferrulelaw03_short.mono _ _ _ _ _ _
   | exact ferruleref03_Good.mono _ _ _ _ _ _
   | exact ferruleref03_Same.mono _ _ _ _ _ _ _ _ _ _ _
   | exact ferruleref03_Text.mono _ _ _ _ _ _
   | exact semver_Good.mono _ _ _ _ _ _
   | exact semver_Read.mono _ _
   | exact semver_Same.mono _ _ _ _ _ _ _ _ _ _ _
   | exact LeO.none _
   | refine LeO.ite ?_ ?_
   | refine LeO.bind ?_ (fun _ => ?_)
  ·intro y0 y1 y2 y3 y4 y5 y6 y7
   unfold ferrulelaw03_SemverTexts.j1
   repeat' first
   | (with_reducible exact ih0 _ _ _ _ _ _ _ _ _ _ _)
   | (with_reducible exact ih1 _ _ _ _ _ _ _ _)
   | (with_reducible exact ferrulelaw03_awake.mono _)
   | (with_reducible exact ferrulelaw03_short.mono _ _ _ _ _ _)
   | (with_reducible exact ferruleref03_Good.mono _ _ _ _ _ _)
   | (with_reducible exact ferruleref03_Same.mono _ _ _ _ _ _ _ _ _ _ _)
   | (with_reducible exact ferruleref03_Text.mono _ _ _ _ _ _)
   | (with_reducible exact semver_Good.mono _ _ _ _ _ _)
   | (with_reducible exact semver_Read.mono _ _)
   | (with_reducible exact semver_Same.mono _ _ _ _ _ _ _ _ _ _ _)
   | (with_reducible exact LeO.refl _)
   | (with_reducible exact LeO.none _)
   | (with_reducible refine LeO.ite ?_ ?_)
   | (with_reducible refine LeO.bind ?_ (fun _ => ?_))
   | exact ih0 _ _ _ _ _ _ _ _ _ _ _
   | exact ih1 _ _ _ _ _ _ _ _
   | exact ferrulelaw03_awake.mono _
   | exact ferrulelaw03_short.mono _ _ _ _ _ _
   | exact ferruleref03_Good.mono _ _ _ _ _ _
   | exact ferruleref03_Same.mono _ _ _ _ _ _ _ _ _ _ _
   | exact ferruleref03_Text.mono _ _ _ _ _ _
   | exact semver_Good.mono _ _ _ _ _ _
   | exact semver_Read.mono _ _
   | exact semver_Same.mono _ _ _ _ _ _ _ _ _ _ _
   | exact LeO.none _
   | refine LeO.ite ?_ ?_
   | refine LeO.bind ?_ (fun _ => ?_)
theorem ferrulelaw03_SemverTexts.mono : ∀ a0 a1 a2 a3 a4 a5 a6 a7 a8 a9 k, LeO (ferrulelaw03_SemverTexts.f k a0 a1 a2 a3 a4 a5 a6 a7 a8 a9) (ferrulelaw03_SemverTexts.f (k + 1) a0 a1 a2 a3 a4 a5 a6 a7 a8 a9) := by
 intro a0 a1 a2 a3 a4 a5 a6 a7 a8 a9 k
 obtain ⟨ih0, ih1⟩ := ferrulelaw03_SemverTexts.mono_l k
 unfold ferrulelaw03_SemverTexts.f
 repeat' first
   | (with_reducible exact ih0 _ _ _ _ _ _ _ _ _ _ _)
   | (with_reducible exact ih1 _ _ _ _ _ _ _ _)
   | (with_reducible exact ferrulelaw03_awake.mono _)
   | (with_reducible exact ferrulelaw03_short.mono _ _ _ _ _ _)
   | (with_reducible exact ferruleref03_Good.mono _ _ _ _ _ _)
   | (with_reducible exact ferruleref03_Same.mono _ _ _ _ _ _ _ _ _ _ _)
   | (with_reducible exact ferruleref03_Text.mono _ _ _ _ _ _)
   | (with_reducible exact semver_Good.mono _ _ _ _ _ _)
   | (with_reducible exact semver_Read.mono _ _)
   | (with_reducible exact semver_Same.mono _ _ _ _ _ _ _ _ _ _ _)
   | (with_reducible exact LeO.refl _)
   | (with_reducible exact LeO.none _)
   | (with_reducible refine LeO.ite ?_ ?_)
   | (with_reducible refine LeO.bind ?_ (fun _ => ?_))
   | exact ih0 _ _ _ _ _ _ _ _ _ _ _
   | exact ih1 _ _ _ _ _ _ _ _
   | exact ferrulelaw03_awake.mono _
   | exact ferrulelaw03_short.mono _ _ _ _ _ _
   | exact ferruleref03_Good.mono _ _ _ _ _ _
   | exact ferruleref03_Same.mono _ _ _ _ _ _ _ _ _ _ _
   | exact ferruleref03_Text.mono _ _ _ _ _ _
   | exact semver_Good.mono _ _ _ _ _ _
   | exact semver_Read.mono _ _
   | exact semver_Same.mono _ _ _ _ _ _ _ _ _ _ _
   | exact LeO.none _
   | refine LeO.ite ?_ ?_
   | refine LeO.bind ?_ (fun _ => ?_)
def ferrulelaw03_SemverTexts.T7 : Bool × List (List Nat × List Nat) := (true, [([], []), ([], []), ([1], [1]), ([0, 2], [0, 2]), ([3, 2], [3]), ([4], [4]), ([4], [4]), ([6, 4, 4], [4, 6]), ([5, 7, 4], [4, 5, 7]), ([4, 8], [4, 8]), ([9, 7], [9]), ([10], [10]), ([10], [10]), ([11, 12, 10, 10], [10, 11, 12]), ([10], [10]), ([10], [10]), ([14, 15, 13, 10], [10, 14, 15]), ([13, 16, 10], [10, 13, 16]), ([10, 17], [10, 17]), ([18, 16], [18]), ([19], [19]), ([19], [19]), ([20, 21, 19, 19], [19, 20, 21]), ([22, 19], [19, 22]), ([19, 23], [19, 23])])
def ferrulelaw03_SemverTexts.B7 : List Nat := [0, 0, 2, 7, 15, 31, 31, 95, 255, 511, 1023, 2047, 2047, 8191, 2047, 2047, 65535, 131071, 262143, 524287, 1048575, 1048575, 4194303, 8388607, 16777215]
theorem ferrulelaw03_SemverTexts.tab7 : rtab .any (opsOf Tryd.f12 7) = ferrulelaw03_SemverTexts.T7 := by kernel_rfl
theorem ferrulelaw03_SemverTexts.bits7 : waitsOk ferrulelaw03_SemverTexts.T7.2 ferrulelaw03_SemverTexts.B7 = true := by kernel_rfl
set_option maxHeartbeats 8000000 in
set_option maxRecDepth 100000 in
theorem ferrulelaw03_SemverTexts.calls (k : Nat) (a0_0 : Int) (a0_1 : Int) (a0_2 : Int) (A0_3 : Option Addr) (c0_3 : Nat) (l0_3 : List ByteArray) (A0_4 : Option Addr) (c0_4 : Nat) (l0_4 : List ByteArray) (a1_0 : Int) (a1_1 : Int) (a1_2 : Int) (A1_3 : Option Addr) (c1_3 : Nat) (l1_3 : List ByteArray) (A1_4 : Option Addr) (c1_4 : Nat) (l1_4 : List ByteArray) (r : Bool) (w : World) (hr0_3 : Kd.C Kd.string w A0_3 l0_3.length l0_3) (hc0_3 : l0_3.length ≤ c0_3) (hr0_4 : Kd.C Kd.string w A0_4 l0_4.length l0_4) (hc0_4 : l0_4.length ≤ c0_4) (hr1_3 : Kd.C Kd.string w A1_3 l1_3.length l1_3) (hc1_3 : l1_3.length ≤ c1_3) (hr1_4 : Kd.C Kd.string w A1_4 l1_4.length l1_4) (hc1_4 : l1_4.length ≤ c1_4) (h : ferrulelaw03_SemverTexts.f k a0_0 a0_1 a0_2 l0_3 l0_4 a1_0 a1_1 a1_2 l1_3 l1_4 = some r) (TT : Tab w) :
  Calls Tryd.prog 12 #[.agg #[.int .u64 a0_0, .int .u64 a0_1, .int .u64 a0_2, .slice A0_3 l0_3.length c0_3, .slice A0_4 l0_4.length c0_4], .agg #[.int .u64 a1_0, .int .u64 a1_1, .int .u64 a1_2, .slice A1_3 l1_3.length c1_3, .slice A1_4 l1_4.length c1_4]] w fun e w' => e = .returned (.bool r) ∧ Below w.heap.size w w' := by
 have hu40 := Tryd.underlying40
 have HR0_3 := Aside0.mk hr0_3
 have HC0_3 := Aside0.mk hc0_3
 clear hr0_3 hc0_3
 have HR0_4 := Aside0.mk hr0_4
 have HC0_4 := Aside0.mk hc0_4
 clear hr0_4 hc0_4
 have HR1_3 := Aside0.mk hr1_3
 have HC1_3 := Aside0.mk hc1_3
 clear hr1_3 hc1_3
 have HR1_4 := Aside0.mk hr1_4
 have HC1_4 := Aside0.mk hc1_4
 clear hr1_4 hc1_4
 have HB := Aside0.mk (Below.refl w.heap.size w)
 have H : ((ferrulelaw03_awake.f k).bind fun t103 => (if t103 = true then ((ferrulelaw03_short.f k a0_0 a0_1 a0_2 l0_3 l0_4).bind fun t104 => (if t104 = true then ((ferrulelaw03_short.f k a1_0 a1_1 a1_2 l1_3 l1_4).bind fun t105 => (ferrulelaw03_SemverTexts.j0 k (!t105) a0_0 a0_1 a0_2 l0_3 l0_4 a1_0 a1_1 a1_2 l1_3 l1_4)) else (ferrulelaw03_SemverTexts.j0 k true a0_0 a0_1 a0_2 l0_3 l0_4 a1_0 a1_1 a1_2 l1_3 l1_4))) else (some false))) = some r := h
 clear h
 replace H := Option.bind_eq_some_iff.mp H
 obtain ⟨t103, A30, H⟩ := H
 replace H : (if t103 = true then ((ferrulelaw03_short.f k a0_0 a0_1 a0_2 l0_3 l0_4).bind fun t104 => (if t104 = true then ((ferrulelaw03_short.f k a1_0 a1_1 a1_2 l1_3 l1_4).bind fun t105 => (ferrulelaw03_SemverTexts.j0 k (!t105) a0_0 a0_1 a0_2 l0_3 l0_4 a1_0 a1_1 a1_2 l1_3 l1_4)) else (ferrulelaw03_SemverTexts.j0 k true a0_0 a0_1 a0_2 l0_3 l0_4 a1_0 a1_1 a1_2 l1_3 l1_4))) else (some false)) = some r := H
 have A3 := Aside0.mk A30
 clear A30
 by_cases c4 : t103 = true
 ·subst c4
  have H1 : ((ferrulelaw03_short.f k a0_0 a0_1 a0_2 l0_3 l0_4).bind fun t104 => (if t104 = true then ((ferrulelaw03_short.f k a1_0 a1_1 a1_2 l1_3 l1_4).bind fun t105 => (ferrulelaw03_SemverTexts.j0 k (!t105) a0_0 a0_1 a0_2 l0_3 l0_4 a1_0 a1_1 a1_2 l1_3 l1_4)) else (ferrulelaw03_SemverTexts.j0 k true a0_0 a0_1 a0_2 l0_3 l0_4 a1_0 a1_1 a1_2 l1_3 l1_4))) = some r := by rw [if_pos rfl] at H; exact H
  clear H
  have H := H1
  clear H1
  have HC5 := Aside0.mk H
  clear H
  go_enter Tryd.func12, Tryd.ntmps12
  go_upto_region 3 with (first | ((with_reducible refine gate_dst (N := 2) rfl ?_); refine box_event ?hg (N := 2) ?hd (cs := #[.int .u64 a0_0, .int .u64 a0_1, .int .u64 a0_2, .slice A0_3 l0_3.length c0_3, .slice A0_4 l0_4.length c0_4]) (t := 40) ?hr ?_; (case hd => rfl); (case hg => rfl); (case hr => first | (go_simp; done) | (go_simp; rfl)); intro gb101 hg w6 hbox hb; have BK101 := Aside0.mk hbox; have GW101 := Aside0.mk ((by rw [hg]; exact (below_size bB) : w.heap.size ≤ gb101)); have GE101 := Aside0.mk ((by rw [hg]; exact (below_size bB) : w.heap.size ≤ gb101)); replace HB := aB HB hb; clear hb hbox hg) | ((with_reducible refine gate_dst (N := 3) rfl ?_); refine box_event ?hg (N := 3) ?hd (cs := #[.int .u64 a1_0, .int .u64 a1_1, .int .u64 a1_2, .slice A1_3 l1_3.length c1_3, .slice A1_4 l1_4.length c1_4]) (t := 40) ?hr ?_; (case hd => rfl); (case hg => rfl); (case hr => first | (go_simp; done) | (go_simp; rfl)); intro gb102 hg w7 hbox hb; have BK102 := Aside0.mk hbox; have GW102 := Aside0.mk ((by rw [hg]; exact (below_size bB) : w.heap.size ≤ gb102)); have GE102 := Aside0.mk ((by rw [hg]; exact (below_size bB) : w.heap.size ≤ gb102)); replace HB := aB HB hb; have NB101_102 := Aside0.mk ((by rw [hg]; exact Nat.ne_of_lt (blk_lt (g := gb101) (o := .cells #[.int .u64 a0_0, .int .u64 a0_1, .int .u64 a0_2, .slice A0_3 l0_3.length c0_3, .slice A0_4 l0_4.length c0_4] 40 (0, 0)) (aKw BK101)) : gb101 ≠ gb102)); have NB102_101 := Aside0.mk ((by rw [hg]; exact Nat.ne_of_gt (blk_lt (g := gb101) (o := .cells #[.int .u64 a0_0, .int .u64 a0_1, .int .u64 a0_2, .slice A0_3 l0_3.length c0_3, .slice A0_4 l0_4.length c0_4] 40 (0, 0)) (aKw BK101)) : gb102 ≠ gb101)); replace BK101 := aK BK101 hb; clear hb hbox hg) | ((with_reducible refine gate_callee (f := 32) rfl ?_); refine goesL_ (some 10) rfl rfl Tryd.func32 (by kernel_rfl) rfl #[] rfl bM ?_; (with_reducible refine (ferrulelaw03_awake.calls k  true _ A3.out).mono ?_); rintro e w8 ⟨rfl, hb⟩; refine ⟨_, rfl, ?_⟩; replace BK101 := aK BK101 hb; replace BK102 := aK BK102 hb; replace HB := aB HB hb; (try clear hb); (try clear hb2); (try clear hk); (try clear hi)))
  (try simp only [Act.put, List.setIfInBounds_toArray, List.set_cons_zero, List.set_cons_succ])
  go_cut [19] (fun v19 wc => ∃ (kq : Nat) (x19_4 : Bool), v19 = .bool x19_4 ∧ Aside0 (ferrulelaw03_SemverTexts.j0 kq x19_4 a0_0 a0_1 a0_2 l0_3 l0_4 a1_0 a1_1 a1_2 l1_3 l1_4 = some r) ∧ Aside0 (kq ≤ k) ∧ Aside0 (wc.heap[gb101]? = some (.cells #[.int .u64 a0_0, .int .u64 a0_1, .int .u64 a0_2, (.slice A0_3 l0_3.length c0_3), (.slice A0_4 l0_4.length c0_4)] 40 (0, 0))) ∧ Aside0 (wc.heap[gb102]? = some (.cells #[.int .u64 a1_0, .int .u64 a1_1, .int .u64 a1_2, (.slice A1_3 l1_3.length c1_3), (.slice A1_4 l1_4.length c1_4)] 40 (0, 0))) ∧ Aside0 (Below w.heap.size w wc))
  case first =>
   have H := HC5.out
   clear HC5
   replace H := Option.bind_eq_some_iff.mp H
   obtain ⟨t104, A90, H⟩ := H
   replace H : (if t104 = true then ((ferrulelaw03_short.f k a1_0 a1_1 a1_2 l1_3 l1_4).bind fun t105 => (ferrulelaw03_SemverTexts.j0 k (!t105) a0_0 a0_1 a0_2 l0_3 l0_4 a1_0 a1_1 a1_2 l1_3 l1_4)) else (ferrulelaw03_SemverTexts.j0 k true a0_0 a0_1 a0_2 l0_3 l0_4 a1_0 a1_1 a1_2 l1_3 l1_4)) = some r := H
   have A9 := Aside0.mk A90
   clear A90
   by_cases c10 : t104 = true
   ·subst c10
    have H1 : ((ferrulelaw03_short.f k a1_0 a1_1 a1_2 l1_3 l1_4).bind fun t105 => (ferrulelaw03_SemverTexts.j0 k (!t105) a0_0 a0_1 a0_2 l0_3 l0_4 a1_0 a1_1 a1_2 l1_3 l1_4)) = some r := by rw [if_pos rfl] at H; exact H
    clear H
    have H := H1
    clear H1
    replace H := Option.bind_eq_some_iff.mp H
    obtain ⟨t105, A110, H⟩ := H
    replace H : (ferrulelaw03_SemverTexts.j0 k (!t105) a0_0 a0_1 a0_2 l0_3 l0_4 a1_0 a1_1 a1_2 l1_3 l1_4) = some r := H
    have A11 := Aside0.mk A110
    clear A110
    have H' := Aside0.mk H
    clear H
    have hnb12 := NB101_102.out
    have hnc12 := NB102_101.out
    have hcz13_0 : w8.cell? ⟨gb101, 0, none⟩ = some (.int .u64 a0_0) := (blk_cell BK101.out 0).trans rfl
    have hcz13_1 : w8.cell? ⟨gb101, 1, none⟩ = some (.int .u64 a0_1) := (blk_cell BK101.out 1).trans rfl
    have hcz13_2 : w8.cell? ⟨gb101, 2, none⟩ = some (.int .u64 a0_2) := (blk_cell BK101.out 2).trans rfl
    have hcz13_3 : w8.cell? ⟨gb101, 3, none⟩ = some (.slice A0_3 l0_3.length c0_3) := (blk_cell BK101.out 3).trans rfl
    have hcz13_4 : w8.cell? ⟨gb101, 4, none⟩ = some (.slice A0_4 l0_4.length c0_4) := (blk_cell BK101.out 4).trans rfl
    have hfz13_0 := blk_frozen BK101.out 0
    have hfz13_1 := blk_frozen BK101.out 1
    have hfz13_2 := blk_frozen BK101.out 2
    have hfz13_3 := blk_frozen BK101.out 3
    have hfz13_4 := blk_frozen BK101.out 4
    go_wp2_with (first | ((with_reducible refine gate_callee (f := 43) rfl ?_); refine goesL_ (some 13) rfl rfl Tryd.func43 (by kernel_rfl) rfl #[.agg #[.int .u64 a0_0, .int .u64 a0_1, .int .u64 a0_2, .slice A0_3 l0_3.length c0_3, .slice A0_4 l0_4.length c0_4]] rfl bM ?_; (with_reducible refine (ferrulelaw03_short.calls k a0_0 a0_1 a0_2 _ _ l0_3 _ _ l0_4 true _ ?side1 ?side2 ?side3 ?side4 A9.out).mono ?_); (case side1 => exact sW (Kd.C_below HR0_3.out HB.out)); (case side2 => exact HC0_3.out); (case side3 => exact sW (Kd.C_below HR0_4.out HB.out)); (case side4 => exact HC0_4.out); rintro e w14 ⟨rfl, hb⟩; refine ⟨_, rfl, ?_⟩; replace BK101 := aK BK101 hb; replace BK102 := aK BK102 hb; replace HB := aB HB hb; (try clear hb); (try clear hb2); (try clear hk); (try clear hi); have hcz15_0 : w14.cell? ⟨gb102, 0, none⟩ = some (.int .u64 a1_0) := (blk_cell BK102.out 0).trans rfl; have hcz15_1 : w14.cell? ⟨gb102, 1, none⟩ = some (.int .u64 a1_1) := (blk_cell BK102.out 1).trans rfl; have hcz15_2 : w14.cell? ⟨gb102, 2, none⟩ = some (.int .u64 a1_2) := (blk_cell BK102.out 2).trans rfl; have hcz15_3 : w14.cell? ⟨gb102, 3, none⟩ = some (.slice A1_3 l1_3.length c1_3) := (blk_cell BK102.out 3).trans rfl; have hcz15_4 : w14.cell? ⟨gb102, 4, none⟩ = some (.slice A1_4 l1_4.length c1_4) := (blk_cell BK102.out 4).trans rfl; have hfz15_0 := blk_frozen BK102.out 0; have hfz15_1 := blk_frozen BK102.out 1; have hfz15_2 := blk_frozen BK102.out 2; have hfz15_3 := blk_frozen BK102.out 3; have hfz15_4 := blk_frozen BK102.out 4) | (go_at_call 43; (with_reducible refine (ferrulelaw03_short.calls k a1_0 a1_1 a1_2 _ _ l1_3 _ _ l1_4 t105 _ ?side1 ?side2 ?side3 ?side4 A11.out).mono ?_); (case side1 => exact sW (Kd.C_below HR1_3.out HB.out)); (case side2 => exact HC1_3.out); (case side3 => exact sW (Kd.C_below HR1_4.out HB.out)); (case side4 => exact HC1_4.out); rintro e w16 ⟨rfl, hb⟩; replace BK101 := aK BK101 hb; replace BK102 := aK BK102 hb; replace HB := aB HB hb; (try clear hb); (try clear hb2); (try clear hk); (try clear hi)))
    go_meet
    case rel => exact ⟨_, (!t105), bS, H', ⟨by first | omega | exact Nat.le_refl _⟩, ⟨aKw BK101⟩, ⟨aKw BK102⟩, ⟨bB⟩⟩
   ·replace c10 := Bool.eq_false_iff.mpr c10
    subst c10
    have H1 : (ferrulelaw03_SemverTexts.j0 k true a0_0 a0_1 a0_2 l0_3 l0_4 a1_0 a1_1 a1_2 l1_3 l1_4) = some r := by rw [if_neg (show ¬ (false = true) by decide)] at H; exact H
    clear H
    have H := H1
    clear H1
    have H' := Aside0.mk H
    clear H
    have hnb17 := NB101_102.out
    have hnc17 := NB102_101.out
    have hcz18_0 : w8.cell? ⟨gb101, 0, none⟩ = some (.int .u64 a0_0) := (blk_cell BK101.out 0).trans rfl
    have hcz18_1 : w8.cell? ⟨gb101, 1, none⟩ = some (.int .u64 a0_1) := (blk_cell BK101.out 1).trans rfl
    have hcz18_2 : w8.cell? ⟨gb101, 2, none⟩ = some (.int .u64 a0_2) := (blk_cell BK101.out 2).trans rfl
    have hcz18_3 : w8.cell? ⟨gb101, 3, none⟩ = some (.slice A0_3 l0_3.length c0_3) := (blk_cell BK101.out 3).trans rfl
    have hcz18_4 : w8.cell? ⟨gb101, 4, none⟩ = some (.slice A0_4 l0_4.length c0_4) := (blk_cell BK101.out 4).trans rfl
    have hfz18_0 := blk_frozen BK101.out 0
    have hfz18_1 := blk_frozen BK101.out 1
    have hfz18_2 := blk_frozen BK101.out 2
    have hfz18_3 := blk_frozen BK101.out 3
    have hfz18_4 := blk_frozen BK101.out 4
    go_wp2_with (first | ((with_reducible refine gate_callee (f := 43) rfl ?_); refine goesL_ (some 13) rfl rfl Tryd.func43 (by kernel_rfl) rfl #[.agg #[.int .u64 a0_0, .int .u64 a0_1, .int .u64 a0_2, .slice A0_3 l0_3.length c0_3, .slice A0_4 l0_4.length c0_4]] rfl bM ?_; (with_reducible refine (ferrulelaw03_short.calls k a0_0 a0_1 a0_2 _ _ l0_3 _ _ l0_4 false _ ?side1 ?side2 ?side3 ?side4 A9.out).mono ?_); (case side1 => exact sW (Kd.C_below HR0_3.out HB.out)); (case side2 => exact HC0_3.out); (case side3 => exact sW (Kd.C_below HR0_4.out HB.out)); (case side4 => exact HC0_4.out); rintro e w19 ⟨rfl, hb⟩; refine ⟨_, rfl, ?_⟩; replace BK101 := aK BK101 hb; replace BK102 := aK BK102 hb; replace HB := aB HB hb; (try clear hb); (try clear hb2); (try clear hk); (try clear hi)))
    go_meet
    case rel => exact ⟨_, (true), bS, H', ⟨by first | omega | exact Nat.le_refl _⟩, ⟨aKw BK101⟩, ⟨aKw BK102⟩, ⟨bB⟩⟩
  case rest =>
   clear HC5
   try clear c1
   try clear p2
   try clear c3
   try clear c4
   try clear p6
   try clear c10
   try clear c12
   try clear c17
   try clear hcz13_0
   try clear hcz13_1
   try clear hcz13_2
   try clear hcz13_3
   try clear hcz13_4
   try clear hcz15_0
   try clear hcz15_1
   try clear hcz15_2
   try clear hcz15_3
   try clear hcz15_4
   try clear hcz18_0
   try clear hcz18_1
   try clear hcz18_2
   try clear hcz18_3
   try clear hcz18_4
   try clear hfz13_0
   try clear hfz13_1
   try clear hfz13_2
   try clear hfz13_3
   try clear hfz13_4
   try clear hfz15_0
   try clear hfz15_1
   try clear hfz15_2
   try clear hfz15_3
   try clear hfz15_4
   try clear hfz18_0
   try clear hfz18_1
   try clear hfz18_2
   try clear hfz18_3
   try clear hfz18_4
   obtain ⟨kq, x19_4, rfl, HA, HJ4, BK101, BK102, HB⟩ := hcut
   cases kq with
   | zero => exact absurd HA.out (by simp [ferrulelaw03_SemverTexts.j0])
   | succ kj4 =>
    have H := HA.out
    clear HA
    simp only [ferrulelaw03_SemverTexts.j0] at H
    by_cases c20 : x19_4 = true
    ·subst c20
     have H1 : (some true) = some r := by rw [if_pos rfl] at H; exact H
     clear H
     have H := H1
     clear H1
     obtain rfl := Option.some.inj H
     go_wp2
     go_ret
     exact ⟨by first | rfl | (simp [errW_none, errW_some] <;> rfl) | (simp [*, errW_none, errW_some] <;> rfl), bB⟩
    ·replace c20 := Bool.eq_false_iff.mpr c20
     subst c20
     have H1 : ((semver_Text.f a0_0 a0_1 a0_2 l0_3 l0_4).bind fun t106 => ((semver_Good.f kj4 a0_0 a0_1 a0_2 l0_3 l0_4).bind fun t107 => ((ferruleref03_Text.f kj4 a0_0 a0_1 a0_2 l0_3 l0_4).bind fun t108 => (if t106.toList = t108.toList then ((ferruleref03_Good.f kj4 a0_0 a0_1 a0_2 l0_3 l0_4).bind fun t109 => (if (t107 != t109) = true then (ferrulelaw03_SemverTexts.j1 kj4 t106 t107 true a0_0 a0_1 a0_2 l0_3 l0_4) else ((semver_Same.f kj4 a0_0 a0_1 a0_2 l0_3 l0_4 a1_0 a1_1 a1_2 l1_3 l1_4).bind fun t110 => ((ferruleref03_Same.f kj4 a0_0 a0_1 a0_2 l0_3 l0_4 a1_0 a1_1 a1_2 l1_3 l1_4).bind fun t111 => (if (t110 != t111) = true then (ferrulelaw03_SemverTexts.j1 kj4 t106 t107 true a0_0 a0_1 a0_2 l0_3 l0_4) else ((semver_Same.f kj4 a0_0 a0_1 a0_2 l0_3 l0_4 a0_0 a0_1 a0_2 l0_3 l0_4).bind fun t112 => (ferrulelaw03_SemverTexts.j1 kj4 t106 t107 (!t112) a0_0 a0_1 a0_2 l0_3 l0_4))))))) else (ferrulelaw03_SemverTexts.j1 kj4 t106 t107 true a0_0 a0_1 a0_2 l0_3 l0_4))))) = some r := by rw [if_neg (show ¬ (false = true) by decide)] at H; exact H
     clear H
     have H := H1
     clear H1
     replace H := Option.bind_eq_some_iff.mp H
     obtain ⟨t106, A210, H⟩ := H
     replace H : ((semver_Good.f kj4 a0_0 a0_1 a0_2 l0_3 l0_4).bind fun t107 => ((ferruleref03_Text.f kj4 a0_0 a0_1 a0_2 l0_3 l0_4).bind fun t108 => (if t106.toList = t108.toList then ((ferruleref03_Good.f kj4 a0_0 a0_1 a0_2 l0_3 l0_4).bind fun t109 => (if (t107 != t109) = true then (ferrulelaw03_SemverTexts.j1 kj4 t106 t107 true a0_0 a0_1 a0_2 l0_3 l0_4) else ((semver_Same.f kj4 a0_0 a0_1 a0_2 l0_3 l0_4 a1_0 a1_1 a1_2 l1_3 l1_4).bind fun t110 => ((ferruleref03_Same.f kj4 a0_0 a0_1 a0_2 l0_3 l0_4 a1_0 a1_1 a1_2 l1_3 l1_4).bind fun t111 => (if (t110 != t111) = true then (ferrulelaw03_SemverTexts.j1 kj4 t106 t107 true a0_0 a0_1 a0_2 l0_3 l0_4) else ((semver_Same.f kj4 a0_0 a0_1 a0_2 l0_3 l0_4 a0_0 a0_1 a0_2 l0_3 l0_4).bind fun t112 => (ferrulelaw03_SemverTexts.j1 kj4 t106 t107 (!t112) a0_0 a0_1 a0_2 l0_3 l0_4))))))) else (ferrulelaw03_SemverTexts.j1 kj4 t106 t107 true a0_0 a0_1 a0_2 l0_3 l0_4)))) = some r := H
     have A21 := Aside0.mk A210
     clear A210
     replace H := Option.bind_eq_some_iff.mp H
     obtain ⟨t107, A220, H⟩ := H
     replace H : ((ferruleref03_Text.f kj4 a0_0 a0_1 a0_2 l0_3 l0_4).bind fun t108 => (if t106.toList = t108.toList then ((ferruleref03_Good.f kj4 a0_0 a0_1 a0_2 l0_3 l0_4).bind fun t109 => (if (t107 != t109) = true then (ferrulelaw03_SemverTexts.j1 kj4 t106 t107 true a0_0 a0_1 a0_2 l0_3 l0_4) else ((semver_Same.f kj4 a0_0 a0_1 a0_2 l0_3 l0_4 a1_0 a1_1 a1_2 l1_3 l1_4).bind fun t110 => ((ferruleref03_Same.f kj4 a0_0 a0_1 a0_2 l0_3 l0_4 a1_0 a1_1 a1_2 l1_3 l1_4).bind fun t111 => (if (t110 != t111) = true then (ferrulelaw03_SemverTexts.j1 kj4 t106 t107 true a0_0 a0_1 a0_2 l0_3 l0_4) else ((semver_Same.f kj4 a0_0 a0_1 a0_2 l0_3 l0_4 a0_0 a0_1 a0_2 l0_3 l0_4).bind fun t112 => (ferrulelaw03_SemverTexts.j1 kj4 t106 t107 (!t112) a0_0 a0_1 a0_2 l0_3 l0_4))))))) else (ferrulelaw03_SemverTexts.j1 kj4 t106 t107 true a0_0 a0_1 a0_2 l0_3 l0_4))) = some r := H
     have A22 := Aside0.mk A220
     clear A220
     have HC23 := Aside0.mk H
     clear H
     have hnb24 := NB101_102.out
     have hnc24 := NB102_101.out
     have hcz25_0 : wc.cell? ⟨gb101, 0, none⟩ = some (.int .u64 a0_0) := (blk_cell BK101.out 0).trans rfl
     have hcz25_1 : wc.cell? ⟨gb101, 1, none⟩ = some (.int .u64 a0_1) := (blk_cell BK101.out 1).trans rfl
     have hcz25_2 : wc.cell? ⟨gb101, 2, none⟩ = some (.int .u64 a0_2) := (blk_cell BK101.out 2).trans rfl
     have hcz25_3 : wc.cell? ⟨gb101, 3, none⟩ = some (.slice A0_3 l0_3.length c0_3) := (blk_cell BK101.out 3).trans rfl
     have hcz25_4 : wc.cell? ⟨gb101, 4, none⟩ = some (.slice A0_4 l0_4.length c0_4) := (blk_cell BK101.out 4).trans rfl
     have hfz25_0 := blk_frozen BK101.out 0
     have hfz25_1 := blk_frozen BK101.out 1
     have hfz25_2 := blk_frozen BK101.out 2
     have hfz25_3 := blk_frozen BK101.out 3
     have hfz25_4 := blk_frozen BK101.out 4
     go_upto_region 7 with (first | ((with_reducible refine gate_callee (f := 44) rfl ?_); refine goesL_ (some 21) rfl rfl Tryd.func44 (by kernel_rfl) rfl #[.agg #[.int .u64 a0_0, .int .u64 a0_1, .int .u64 a0_2, .slice A0_3 l0_3.length c0_3, .slice A0_4 l0_4.length c0_4]] rfl bM ?_; (with_reducible refine (semver_Text.calls a0_0 a0_1 a0_2 _ _ l0_3 _ _ l0_4 t106 _ ?side1 ?side2 ?side3 ?side4 A21.out (tB TT HB)).mono ?_); (case side1 => exact sW (Kd.C_below HR0_3.out HB.out)); (case side2 => exact HC0_3.out); (case side3 => exact sW (Kd.C_below HR0_4.out HB.out)); (case side4 => exact HC0_4.out); rintro e w26 ⟨rfl, hb⟩; refine ⟨_, rfl, ?_⟩; replace BK101 := aK BK101 hb; replace BK102 := aK BK102 hb; replace HB := aB HB hb; (try clear hb); (try clear hb2); (try clear hk); (try clear hi); have hcz27_0 : w26.cell? ⟨gb101, 0, none⟩ = some (.int .u64 a0_0) := (blk_cell BK101.out 0).trans rfl; have hcz27_1 : w26.cell? ⟨gb101, 1, none⟩ = some (.int .u64 a0_1) := (blk_cell BK101.out 1).trans rfl; have hcz27_2 : w26.cell? ⟨gb101, 2, none⟩ = some (.int .u64 a0_2) := (blk_cell BK101.out 2).trans rfl; have hcz27_3 : w26.cell? ⟨gb101, 3, none⟩ = some (.slice A0_3 l0_3.length c0_3) := (blk_cell BK101.out 3).trans rfl; have hcz27_4 : w26.cell? ⟨gb101, 4, none⟩ = some (.slice A0_4 l0_4.length c0_4) := (blk_cell BK101.out 4).trans rfl; have hfz27_0 := blk_frozen BK101.out 0; have hfz27_1 := blk_frozen BK101.out 1; have hfz27_2 := blk_frozen BK101.out 2; have hfz27_3 := blk_frozen BK101.out 3; have hfz27_4 := blk_frozen BK101.out 4) | ((with_reducible refine gate_callee (f := 45) rfl ?_); refine goesL_ (some 23) rfl rfl Tryd.func45 (by kernel_rfl) rfl #[.agg #[.int .u64 a0_0, .int .u64 a0_1, .int .u64 a0_2, .slice A0_3 l0_3.length c0_3, .slice A0_4 l0_4.length c0_4]] rfl bM ?_; (with_reducible refine (semver_Good.calls kj4 a0_0 a0_1 a0_2 _ _ l0_3 _ _ l0_4 t107 _ ?side1 ?side2 ?side3 ?side4 A22.out).mono ?_); (case side1 => exact sW (Kd.C_below HR0_3.out HB.out)); (case side2 => exact HC0_3.out); (case side3 => exact sW (Kd.C_below HR0_4.out HB.out)); (case side4 => exact HC0_4.out); rintro e w28 ⟨rfl, hb⟩; refine ⟨_, rfl, ?_⟩; replace BK101 := aK BK101 hb; replace BK102 := aK BK102 hb; replace HB := aB HB hb; (try clear hb); (try clear hb2); (try clear hk); (try clear hi)))
     (try simp only [Act.put, List.setIfInBounds_toArray, List.set_cons_zero, List.set_cons_succ])
     go_cut [48] (fun v48 wc => ∃ (kq : Nat) (x48_22 : Bool), v48 = .bool x48_22 ∧ Aside0 (ferrulelaw03_SemverTexts.j1 kq t106 t107 x48_22 a0_0 a0_1 a0_2 l0_3 l0_4 = some r) ∧ Aside0 (kq ≤ kj4) ∧ Aside0 (wc.heap[gb101]? = some (.cells #[.int .u64 a0_0, .int .u64 a0_1, .int .u64 a0_2, (.slice A0_3 l0_3.length c0_3), (.slice A0_4 l0_4.length c0_4)] 40 (0, 0))) ∧ Aside0 (wc.heap[gb102]? = some (.cells #[.int .u64 a1_0, .int .u64 a1_1, .int .u64 a1_2, (.slice A1_3 l1_3.length c1_3), (.slice A1_4 l1_4.length c1_4)] 40 (0, 0))) ∧ Aside0 (Below w.heap.size w wc))
     case first =>
      have H := HC23.out
      clear HC23
      replace H := Option.bind_eq_some_iff.mp H
      obtain ⟨t108, A290, H⟩ := H
      replace H : (if t106.toList = t108.toList then ((ferruleref03_Good.f kj4 a0_0 a0_1 a0_2 l0_3 l0_4).bind fun t109 => (if (t107 != t109) = true then (ferrulelaw03_SemverTexts.j1 kj4 t106 t107 true a0_0 a0_1 a0_2 l0_3 l0_4) else ((semver_Same.f kj4 a0_0 a0_1 a0_2 l0_3 l0_4 a1_0 a1_1 a1_2 l1_3 l1_4).bind fun t110 => ((ferruleref03_Same.f kj4 a0_0 a0_1 a0_2 l0_3 l0_4 a1_0 a1_1 a1_2 l1_3 l1_4).bind fun t111 => (if (t110 != t111) = true then (ferrulelaw03_SemverTexts.j1 kj4 t106 t107 true a0_0 a0_1 a0_2 l0_3 l0_4) else ((semver_Same.f kj4 a0_0 a0_1 a0_2 l0_3 l0_4 a0_0 a0_1 a0_2 l0_3 l0_4).bind fun t112 => (ferrulelaw03_SemverTexts.j1 kj4 t106 t107 (!t112) a0_0 a0_1 a0_2 l0_3 l0_4))))))) else (ferrulelaw03_SemverTexts.j1 kj4 t106 t107 true a0_0 a0_1 a0_2 l0_3 l0_4)) = some r := H
      have A29 := Aside0.mk A290
      clear A290
      by_cases c30 : t106.toList = t108.toList
      ·rw [if_pos c30] at H
       have c30b0 : (t106.toList == t108.toList) = true := beq_iff_eq.mpr c30
       have c30b1 : (t106.toList != t108.toList) = false := bne_eq_false_iff_eq.mpr c30
       clear c30
       (first | rw [c30b0] | (simp only [i64_w, i32_w]; rw [c30b0]) | skip)
       replace H := Option.bind_eq_some_iff.mp H
       obtain ⟨t109, A310, H⟩ := H
       replace H : (if (t107 != t109) = true then (ferrulelaw03_SemverTexts.j1 kj4 t106 t107 true a0_0 a0_1 a0_2 l0_3 l0_4) else ((semver_Same.f kj4 a0_0 a0_1 a0_2 l0_3 l0_4 a1_0 a1_1 a1_2 l1_3 l1_4).bind fun t110 => ((ferruleref03_Same.f kj4 a0_0 a0_1 a0_2 l0_3 l0_4 a1_0 a1_1 a1_2 l1_3 l1_4).bind fun t111 => (if (t110 != t111) = true then (ferrulelaw03_SemverTexts.j1 kj4 t106 t107 true a0_0 a0_1 a0_2 l0_3 l0_4) else ((semver_Same.f kj4 a0_0 a0_1 a0_2 l0_3 l0_4 a0_0 a0_1 a0_2 l0_3 l0_4).bind fun t112 => (ferrulelaw03_SemverTexts.j1 kj4 t106 t107 (!t112) a0_0 a0_1 a0_2 l0_3 l0_4)))))) = some r := H
       have A31 := Aside0.mk A310
       clear A310
       by_cases c32 : (t107 != t109) = true
       ·rw [if_pos c32] at H
        have c32b0 : (t107 != t109) = true := c32
        (try (have c32b1 : decide (t107 = t109) = false := by simpa using c32))
        (try (have c32b2 : (t107 == t109) = false := by simpa using c32))
        (try (have c32b3 : ¬ (t107 = t109) := by simpa using c32))
        clear c32
        have H' := Aside0.mk H
        clear H
        try go_wp2
        replace BK101 := Aside0.mk (blk_drew BK101.out)
        replace BK102 := Aside0.mk (blk_drew BK102.out)
        replace HB := Aside0.mk (below_drew1 HB.out)
        refine start_ (n := 25) (S := fun w' => w'.cell? ⟨gb101, 0, none⟩ = some (.int .u64 a0_0) ∧ w'.cell? ⟨gb101, 1, none⟩ = some (.int .u64 a0_1) ∧ w'.cell? ⟨gb101, 2, none⟩ = some (.int .u64 a0_2) ∧ w'.cell? ⟨gb101, 3, none⟩ = some (.slice A0_3 l0_3.length c0_3) ∧ w'.cell? ⟨gb101, 4, none⟩ = some (.slice A0_4 l0_4.length c0_4)) (ds := []) #[false, false, false, false, false, false, false, false, false, false, false, false, false, false, false, false, false, false, false, false, false, false, false, false, false] (by kernel_rfl) rfl rfl ⟨(blk_cell BK101.out 0).trans rfl, (blk_cell BK101.out 1).trans rfl, (blk_cell BK101.out 2).trans rfl, (blk_cell BK101.out 3).trans rfl, (blk_cell BK101.out 4).trans rfl⟩ (fun hHeld => ?_); refine with_tabW ferrulelaw03_SemverTexts.tab7 ferrulelaw03_SemverTexts.bits7 (fun HT_ HW_ => ?_)
        generalize w28.drew = w33 at BK101 BK102 HB hHeld ⊢
        refine pV 0 24 rfl rfl ?_
        refine tV 1 25 rfl rfl ?_
        refine one_ (i := 2) (N := some 26) #[true, true, true, false, false, false, false, false, false, false, false, false, false, false, false, false, false, false, false, false, false, false, false, false, false] rfl rfl (one_of HT_.out (by kernel_rfl)) (by decide) (fun K hK => ?_)
        refine goes_ Tryd.func46 (by kernel_rfl) rfl #[.agg #[.int .u64 a0_0, .int .u64 a0_1, .int .u64 a0_2, .slice A0_3 l0_3.length c0_3, .slice A0_4 l0_4.length c0_4]] (by rfl) rfl rfl bM ?_
        with_reducible refine (ferruleref03_Text.calls kj4 a0_0 a0_1 a0_2 _ _ l0_3 _ _ l0_4 t108 _ ?side1 ?side2 ?side3 ?side4 A29.out).mono ?_
        (case side1 => exact sW (Kd.C_below HR0_3.out HB.out))
        (case side2 => exact HC0_3.out)
        (case side3 => exact sW (Kd.C_below HR0_4.out HB.out))
        (case side4 => exact HC0_4.out)
        rintro e w34 ⟨rfl, hb⟩
        refine ⟨_, rfl, ?_⟩
        replace BK101 := aK BK101 hb
        replace BK102 := aK BK102 hb
        replace HB := aB HB hb
        (try clear hb)
        (try clear hb2)
        (try clear hk)
        (try clear hi)
        refine hK.out _ _ ⟨(blk_cell BK101.out 0).trans rfl, (blk_cell BK101.out 1).trans rfl, (blk_cell BK101.out 2).trans rfl, (blk_cell BK101.out 3).trans rfl, (blk_cell BK101.out 4).trans rfl⟩ (fun hHeld => ?_)
        clear hK K
        refine norm_ (a' := ?_) ?_ ?_
        rotate_left
        ·show Act.put _ (some 26) _ = _
         simp only [Act.put, List.setIfInBounds_toArray, List.set_cons_zero, List.set_cons_succ, i64_w, i32_w]
         rfl
        refine pV 3 27 rfl rfl ?_
        refine pV 4 28 rfl rfl ?_
        refine pV 5 29 rfl rfl ?_
        refine tV 6 30 rfl rfl ?_
        refine one_ (i := 7) (N := some 31) #[true, true, true, true, true, true, true, true, false, false, false, false, false, false, false, false, false, false, false, false, false, false, false, false, false] rfl rfl (one_of HT_.out (by kernel_rfl)) (by decide) (fun K hK => ?_)
        refine goes_ Tryd.func30 (by kernel_rfl) rfl #[.agg #[.int .u64 a0_0, .int .u64 a0_1, .int .u64 a0_2, .slice A0_3 l0_3.length c0_3, .slice A0_4 l0_4.length c0_4]] (by rfl) rfl rfl bM ?_
        with_reducible refine (ferruleref03_Good.calls kj4 a0_0 a0_1 a0_2 _ _ l0_3 _ _ l0_4 t109 _ ?side1 ?side2 ?side3 ?side4 A31.out).mono ?_
        (case side1 => exact sW (Kd.C_below HR0_3.out HB.out))
        (case side2 => exact HC0_3.out)
        (case side3 => exact sW (Kd.C_below HR0_4.out HB.out))
        (case side4 => exact HC0_4.out)
        rintro e w35 ⟨rfl, hb⟩
        refine ⟨_, rfl, ?_⟩
        replace BK101 := aK BK101 hb
        replace BK102 := aK BK102 hb
        replace HB := aB HB hb
        (try clear hb)
        (try clear hb2)
        (try clear hk)
        (try clear hi)
        refine hK.out _ _ ⟨(blk_cell BK101.out 0).trans rfl, (blk_cell BK101.out 1).trans rfl, (blk_cell BK101.out 2).trans rfl, (blk_cell BK101.out 3).trans rfl, (blk_cell BK101.out 4).trans rfl⟩ (fun hHeld => ?_)
        clear hK K
        refine norm_ (a' := ?_) ?_ ?_
        rotate_left
        ·show Act.put _ (some 31) _ = _
         simp only [Act.put, List.setIfInBounds_toArray, List.set_cons_zero, List.set_cons_succ, i64_w, i32_w]
         rfl
        refine pV 8 32 rfl rfl ?_
        refine pV 9 33 rfl rfl ?_
        refine pV 10 34 rfl rfl ?_
        refine pU 11 35 rfl rfl ?_
        refine pU 12 36 rfl rfl ?_
        refine pU 13 37 rfl rfl ?_
        refine pU 14 38 rfl rfl ?_
        refine pU 15 39 rfl rfl ?_
        refine pU 16 40 rfl rfl ?_
        refine pU 17 41 rfl rfl ?_
        refine pV 18 42 rfl rfl ?_
        refine pV 19 43 rfl rfl ?_
        refine pU 20 44 rfl rfl ?_
        refine pU 21 45 rfl rfl ?_
        refine pU 22 46 rfl rfl ?_
        refine pU 23 47 rfl rfl ?_
        refine pV 24 48 rfl rfl ?_
        refine done_ (done_of HT_.out (by kernel_rfl)) ?_
        try go_wp2
        go_meet
        case rel => exact ⟨_, (true), bS, H', ⟨by have := HJ4.out; first | omega | exact Nat.le_refl _⟩, ⟨aKw BK101⟩, ⟨aKw BK102⟩, ⟨bB⟩⟩
       ·rw [if_neg c32] at H
        have c32b0 : (t107 != t109) = false := by simpa using c32
        (try (have c32b1 : decide (t107 = t109) = true := by simpa using c32))
        (try (have c32b2 : (t107 == t109) = true := by simpa using c32))
        clear c32
        replace H := Option.bind_eq_some_iff.mp H
        obtain ⟨t110, A360, H⟩ := H
        replace H : ((ferruleref03_Same.f kj4 a0_0 a0_1 a0_2 l0_3 l0_4 a1_0 a1_1 a1_2 l1_3 l1_4).bind fun t111 => (if (t110 != t111) = true then (ferrulelaw03_SemverTexts.j1 kj4 t106 t107 true a0_0 a0_1 a0_2 l0_3 l0_4) else ((semver_Same.f kj4 a0_0 a0_1 a0_2 l0_3 l0_4 a0_0 a0_1 a0_2 l0_3 l0_4).bind fun t112 => (ferrulelaw03_SemverTexts.j1 kj4 t106 t107 (!t112) a0_0 a0_1 a0_2 l0_3 l0_4)))) = some r := H
        have A36 := Aside0.mk A360
        clear A360
        replace H := Option.bind_eq_some_iff.mp H
        obtain ⟨t111, A370, H⟩ := H
        replace H : (if (t110 != t111) = true then (ferrulelaw03_SemverTexts.j1 kj4 t106 t107 true a0_0 a0_1 a0_2 l0_3 l0_4) else ((semver_Same.f kj4 a0_0 a0_1 a0_2 l0_3 l0_4 a0_0 a0_1 a0_2 l0_3 l0_4).bind fun t112 => (ferrulelaw03_SemverTexts.j1 kj4 t106 t107 (!t112) a0_0 a0_1 a0_2 l0_3 l0_4))) = some r := H
        have A37 := Aside0.mk A370
        clear A370
        by_cases c38 : (t110 != t111) = true
        ·rw [if_pos c38] at H
         have c38b0 : (t110 != t111) = true := c38
         (try (have c38b1 : decide (t110 = t111) = false := by simpa using c38))
         (try (have c38b2 : (t110 == t111) = false := by simpa using c38))
         (try (have c38b3 : ¬ (t110 = t111) := by simpa using c38))
         clear c38
         have H' := Aside0.mk H
         clear H
         try go_wp2
         replace BK101 := Aside0.mk (blk_drew BK101.out)
         replace BK102 := Aside0.mk (blk_drew BK102.out)
         replace HB := Aside0.mk (below_drew1 HB.out)
         refine start_ (n := 25) (S := fun w' => w'.cell? ⟨gb101, 0, none⟩ = some (.int .u64 a0_0) ∧ w'.cell? ⟨gb101, 1, none⟩ = some (.int .u64 a0_1) ∧ w'.cell? ⟨gb101, 2, none⟩ = some (.int .u64 a0_2) ∧ w'.cell? ⟨gb101, 3, none⟩ = some (.slice A0_3 l0_3.length c0_3) ∧ w'.cell? ⟨gb101, 4, none⟩ = some (.slice A0_4 l0_4.length c0_4) ∧ w'.cell? ⟨gb102, 0, none⟩ = some (.int .u64 a1_0) ∧ w'.cell? ⟨gb102, 1, none⟩ = some (.int .u64 a1_1) ∧ w'.cell? ⟨gb102, 2, none⟩ = some (.int .u64 a1_2) ∧ w'.cell? ⟨gb102, 3, none⟩ = some (.slice A1_3 l1_3.length c1_3) ∧ w'.cell? ⟨gb102, 4, none⟩ = some (.slice A1_4 l1_4.length c1_4)) (ds := []) #[false, false, false, false, false, false, false, false, false, false, false, false, false, false, false, false, false, false, false, false, false, false, false, false, false] (by kernel_rfl) rfl rfl ⟨(blk_cell BK101.out 0).trans rfl, (blk_cell BK101.out 1).trans rfl, (blk_cell BK101.out 2).trans rfl, (blk_cell BK101.out 3).trans rfl, (blk_cell BK101.out 4).trans rfl, (blk_cell BK102.out 0).trans rfl, (blk_cell BK102.out 1).trans rfl, (blk_cell BK102.out 2).trans rfl, (blk_cell BK102.out 3).trans rfl, (blk_cell BK102.out 4).trans rfl⟩ (fun hHeld => ?_); refine with_tabW ferrulelaw03_SemverTexts.tab7 ferrulelaw03_SemverTexts.bits7 (fun HT_ HW_ => ?_)
         generalize w28.drew = w39 at BK101 BK102 HB hHeld ⊢
         refine pV 0 24 rfl rfl ?_
         refine tV 1 25 rfl rfl ?_
         refine one_ (i := 2) (N := some 26) #[true, true, true, false, false, false, false, false, false, false, false, false, false, false, false, false, false, false, false, false, false, false, false, false, false] rfl rfl (one_of HT_.out (by kernel_rfl)) (by decide) (fun K hK => ?_)
         refine goes_ Tryd.func46 (by kernel_rfl) rfl #[.agg #[.int .u64 a0_0, .int .u64 a0_1, .int .u64 a0_2, .slice A0_3 l0_3.length c0_3, .slice A0_4 l0_4.length c0_4]] (by rfl) rfl rfl bM ?_
         with_reducible refine (ferruleref03_Text.calls kj4 a0_0 a0_1 a0_2 _ _ l0_3 _ _ l0_4 t108 _ ?side1 ?side2 ?side3 ?side4 A29.out).mono ?_
         (case side1 => exact sW (Kd.C_below HR0_3.out HB.out))
         (case side2 => exact HC0_3.out)
         (case side3 => exact sW (Kd.C_below HR0_4.out HB.out))
         (case side4 => exact HC0_4.out)
         rintro e w40 ⟨rfl, hb⟩
         refine ⟨_, rfl, ?_⟩
         replace BK101 := aK BK101 hb
         replace BK102 := aK BK102 hb
         replace HB := aB HB hb
         (try clear hb)
         (try clear hb2)
         (try clear hk)
         (try clear hi)
         refine hK.out _ _ ⟨(blk_cell BK101.out 0).trans rfl, (blk_cell BK101.out 1).trans rfl, (blk_cell BK101.out 2).trans rfl, (blk_cell BK101.out 3).trans rfl, (blk_cell BK101.out 4).trans rfl, (blk_cell BK102.out 0).trans rfl, (blk_cell BK102.out 1).trans rfl, (blk_cell BK102.out 2).trans rfl, (blk_cell BK102.out 3).trans rfl, (blk_cell BK102.out 4).trans rfl⟩ (fun hHeld => ?_)
         clear hK K
         refine norm_ (a' := ?_) ?_ ?_
         rotate_left
         ·show Act.put _ (some 26) _ = _
          simp only [Act.put, List.setIfInBounds_toArray, List.set_cons_zero, List.set_cons_succ, i64_w, i32_w]
          rfl
         refine pV 3 27 rfl rfl ?_
         refine pV 4 28 rfl rfl ?_
         refine pV 5 29 rfl rfl ?_
         refine tV 6 30 rfl rfl ?_
         refine one_ (i := 7) (N := some 31) #[true, true, true, true, true, true, true, true, false, false, false, false, false, false, false, false, false, false, false, false, false, false, false, false, false] rfl rfl (one_of HT_.out (by kernel_rfl)) (by decide) (fun K hK => ?_)
         refine goes_ Tryd.func30 (by kernel_rfl) rfl #[.agg #[.int .u64 a0_0, .int .u64 a0_1, .int .u64 a0_2, .slice A0_3 l0_3.length c0_3, .slice A0_4 l0_4.length c0_4]] (by rfl) rfl rfl bM ?_
         with_reducible refine (ferruleref03_Good.calls kj4 a0_0 a0_1 a0_2 _ _ l0_3 _ _ l0_4 t109 _ ?side1 ?side2 ?side3 ?side4 A31.out).mono ?_
         (case side1 => exact sW (Kd.C_below HR0_3.out HB.out))
         (case side2 => exact HC0_3.out)
         (case side3 => exact sW (Kd.C_below HR0_4.out HB.out))
         (case side4 => exact HC0_4.out)
         rintro e w41 ⟨rfl, hb⟩
         refine ⟨_, rfl, ?_⟩
         replace BK101 := aK BK101 hb
         replace BK102 := aK BK102 hb
         replace HB := aB HB hb
         (try clear hb)
         (try clear hb2)
         (try clear hk)
         (try clear hi)
         refine hK.out _ _ ⟨(blk_cell BK101.out 0).trans rfl, (blk_cell BK101.out 1).trans rfl, (blk_cell BK101.out 2).trans rfl, (blk_cell BK101.out 3).trans rfl, (blk_cell BK101.out 4).trans rfl, (blk_cell BK102.out 0).trans rfl, (blk_cell BK102.out 1).trans rfl, (blk_cell BK102.out 2).trans rfl, (blk_cell BK102.out 3).trans rfl, (blk_cell BK102.out 4).trans rfl⟩ (fun hHeld => ?_)
         clear hK K
         refine norm_ (a' := ?_) ?_ ?_
         rotate_left
         ·show Act.put _ (some 31) _ = _
          simp only [Act.put, List.setIfInBounds_toArray, List.set_cons_zero, List.set_cons_succ, i64_w, i32_w]
          rfl
         refine pV 8 32 rfl rfl ?_
         refine pV 9 33 rfl rfl ?_
         refine pV 10 34 rfl rfl ?_
         refine tV 11 35 rfl rfl ?_
         refine tV 12 36 rfl rfl ?_
         refine tV 14 38 rfl rfl ?_
         refine tV 15 39 rfl rfl ?_
         refine one_ (i := 13) (N := some 37) #[true, true, true, true, true, true, true, true, true, true, true, true, true, true, true, true, false, false, false, false, false, false, false, false, false] rfl rfl (one_of HT_.out (by kernel_rfl)) (by decide) (fun K hK => ?_)
         refine goes_ Tryd.func37 (by kernel_rfl) rfl #[.agg #[.int .u64 a0_0, .int .u64 a0_1, .int .u64 a0_2, .slice A0_3 l0_3.length c0_3, .slice A0_4 l0_4.length c0_4], .agg #[.int .u64 a1_0, .int .u64 a1_1, .int .u64 a1_2, .slice A1_3 l1_3.length c1_3, .slice A1_4 l1_4.length c1_4]] (by rfl) rfl rfl bM ?_
         with_reducible refine (semver_Same.calls kj4 a0_0 a0_1 a0_2 _ _ l0_3 _ _ l0_4 a1_0 a1_1 a1_2 _ _ l1_3 _ _ l1_4 t110 _ ?side1 ?side2 ?side3 ?side4 ?side5 ?side6 ?side7 ?side8 A36.out).mono ?_
         (case side1 => exact sW (Kd.C_below HR0_3.out HB.out))
         (case side2 => exact HC0_3.out)
         (case side3 => exact sW (Kd.C_below HR0_4.out HB.out))
         (case side4 => exact HC0_4.out)
         (case side5 => exact sW (Kd.C_below HR1_3.out HB.out))
         (case side6 => exact HC1_3.out)
         (case side7 => exact sW (Kd.C_below HR1_4.out HB.out))
         (case side8 => exact HC1_4.out)
         rintro e w42 ⟨rfl, hb⟩
         refine ⟨_, rfl, ?_⟩
         replace BK101 := aK BK101 hb
         replace BK102 := aK BK102 hb
         replace HB := aB HB hb
         (try clear hb)
         (try clear hb2)
         (try clear hk)
         (try clear hi)
         refine hK.out _ _ ⟨(blk_cell BK101.out 0).trans rfl, (blk_cell BK101.out 1).trans rfl, (blk_cell BK101.out 2).trans rfl, (blk_cell BK101.out 3).trans rfl, (blk_cell BK101.out 4).trans rfl, (blk_cell BK102.out 0).trans rfl, (blk_cell BK102.out 1).trans rfl, (blk_cell BK102.out 2).trans rfl, (blk_cell BK102.out 3).trans rfl, (blk_cell BK102.out 4).trans rfl⟩ (fun hHeld => ?_)
         clear hK K
         refine norm_ (a' := ?_) ?_ ?_
         rotate_left
         ·show Act.put _ (some 37) _ = _
          simp only [Act.put, List.setIfInBounds_toArray, List.set_cons_zero, List.set_cons_succ, i64_w, i32_w]
          rfl
         refine one_ (i := 16) (N := some 40) #[true, true, true, true, true, true, true, true, true, true, true, true, true, true, true, true, true, false, false, false, false, false, false, false, false] rfl rfl (one_of HT_.out (by kernel_rfl)) (by decide) (fun K hK => ?_)
         refine goes_ Tryd.func27 (by kernel_rfl) rfl #[.agg #[.int .u64 a0_0, .int .u64 a0_1, .int .u64 a0_2, .slice A0_3 l0_3.length c0_3, .slice A0_4 l0_4.length c0_4], .agg #[.int .u64 a1_0, .int .u64 a1_1, .int .u64 a1_2, .slice A1_3 l1_3.length c1_3, .slice A1_4 l1_4.length c1_4]] (by rfl) rfl rfl bM ?_
         with_reducible refine (ferruleref03_Same.calls kj4 a0_0 a0_1 a0_2 _ _ l0_3 _ _ l0_4 a1_0 a1_1 a1_2 _ _ l1_3 _ _ l1_4 t111 _ ?side1 ?side2 ?side3 ?side4 ?side5 ?side6 ?side7 ?side8 A37.out).mono ?_
         (case side1 => exact sW (Kd.C_below HR0_3.out HB.out))
         (case side2 => exact HC0_3.out)
         (case side3 => exact sW (Kd.C_below HR0_4.out HB.out))
         (case side4 => exact HC0_4.out)
         (case side5 => exact sW (Kd.C_below HR1_3.out HB.out))
         (case side6 => exact HC1_3.out)
         (case side7 => exact sW (Kd.C_below HR1_4.out HB.out))
         (case side8 => exact HC1_4.out)
         rintro e w43 ⟨rfl, hb⟩
         refine ⟨_, rfl, ?_⟩
         replace BK101 := aK BK101 hb
         replace BK102 := aK BK102 hb
         replace HB := aB HB hb
         (try clear hb)
         (try clear hb2)
         (try clear hk)
         (try clear hi)
         refine hK.out _ _ ⟨(blk_cell BK101.out 0).trans rfl, (blk_cell BK101.out 1).trans rfl, (blk_cell BK101.out 2).trans rfl, (blk_cell BK101.out 3).trans rfl, (blk_cell BK101.out 4).trans rfl, (blk_cell BK102.out 0).trans rfl, (blk_cell BK102.out 1).trans rfl, (blk_cell BK102.out 2).trans rfl, (blk_cell BK102.out 3).trans rfl, (blk_cell BK102.out 4).trans rfl⟩ (fun hHeld => ?_)
         clear hK K
         refine norm_ (a' := ?_) ?_ ?_
         rotate_left
         ·show Act.put _ (some 40) _ = _
          simp only [Act.put, List.setIfInBounds_toArray, List.set_cons_zero, List.set_cons_succ, i64_w, i32_w]
          rfl
         refine pV 17 41 rfl rfl ?_
         refine pV 18 42 rfl rfl ?_
         refine pV 19 43 rfl rfl ?_
         refine pU 20 44 rfl rfl ?_
         refine pU 21 45 rfl rfl ?_
         refine pU 22 46 rfl rfl ?_
         refine pU 23 47 rfl rfl ?_
         refine pV 24 48 rfl rfl ?_
         refine done_ (done_of HT_.out (by kernel_rfl)) ?_
         try go_wp2
         go_meet
         case rel => exact ⟨_, (true), bS, H', ⟨by have := HJ4.out; first | omega | exact Nat.le_refl _⟩, ⟨aKw BK101⟩, ⟨aKw BK102⟩, ⟨bB⟩⟩
        ·rw [if_neg c38] at H
         have c38b0 : (t110 != t111) = false := by simpa using c38
         (try (have c38b1 : decide (t110 = t111) = true := by simpa using c38))
         (try (have c38b2 : (t110 == t111) = true := by simpa using c38))
         clear c38
         replace H := Option.bind_eq_some_iff.mp H
         obtain ⟨t112, A440, H⟩ := H
         replace H : (ferrulelaw03_SemverTexts.j1 kj4 t106 t107 (!t112) a0_0 a0_1 a0_2 l0_3 l0_4) = some r := H
         have A44 := Aside0.mk A440
         clear A440
         have H' := Aside0.mk H
         clear H
         try go_wp2
         replace BK101 := Aside0.mk (blk_drew BK101.out)
         replace BK102 := Aside0.mk (blk_drew BK102.out)
         replace HB := Aside0.mk (below_drew1 HB.out)
         refine start_ (n := 25) (S := fun w' => w'.cell? ⟨gb101, 0, none⟩ = some (.int .u64 a0_0) ∧ w'.cell? ⟨gb101, 1, none⟩ = some (.int .u64 a0_1) ∧ w'.cell? ⟨gb101, 2, none⟩ = some (.int .u64 a0_2) ∧ w'.cell? ⟨gb101, 3, none⟩ = some (.slice A0_3 l0_3.length c0_3) ∧ w'.cell? ⟨gb101, 4, none⟩ = some (.slice A0_4 l0_4.length c0_4) ∧ w'.cell? ⟨gb102, 0, none⟩ = some (.int .u64 a1_0) ∧ w'.cell? ⟨gb102, 1, none⟩ = some (.int .u64 a1_1) ∧ w'.cell? ⟨gb102, 2, none⟩ = some (.int .u64 a1_2) ∧ w'.cell? ⟨gb102, 3, none⟩ = some (.slice A1_3 l1_3.length c1_3) ∧ w'.cell? ⟨gb102, 4, none⟩ = some (.slice A1_4 l1_4.length c1_4)) (ds := []) #[false, false, false, false, false, false, false, false, false, false, false, false, false, false, false, false, false, false, false, false, false, false, false, false, false] (by kernel_rfl) rfl rfl ⟨(blk_cell BK101.out 0).trans rfl, (blk_cell BK101.out 1).trans rfl, (blk_cell BK101.out 2).trans rfl, (blk_cell BK101.out 3).trans rfl, (blk_cell BK101.out 4).trans rfl, (blk_cell BK102.out 0).trans rfl, (blk_cell BK102.out 1).trans rfl, (blk_cell BK102.out 2).trans rfl, (blk_cell BK102.out 3).trans rfl, (blk_cell BK102.out 4).trans rfl⟩ (fun hHeld => ?_); refine with_tabW ferrulelaw03_SemverTexts.tab7 ferrulelaw03_SemverTexts.bits7 (fun HT_ HW_ => ?_)
         generalize w28.drew = w45 at BK101 BK102 HB hHeld ⊢
         refine pV 0 24 rfl rfl ?_
         refine tV 1 25 rfl rfl ?_
         refine one_ (i := 2) (N := some 26) #[true, true, true, false, false, false, false, false, false, false, false, false, false, false, false, false, false, false, false, false, false, false, false, false, false] rfl rfl (one_of HT_.out (by kernel_rfl)) (by decide) (fun K hK => ?_)
         refine goes_ Tryd.func46 (by kernel_rfl) rfl #[.agg #[.int .u64 a0_0, .int .u64 a0_1, .int .u64 a0_2, .slice A0_3 l0_3.length c0_3, .slice A0_4 l0_4.length c0_4]] (by rfl) rfl rfl bM ?_
         with_reducible refine (ferruleref03_Text.calls kj4 a0_0 a0_1 a0_2 _ _ l0_3 _ _ l0_4 t108 _ ?side1 ?side2 ?side3 ?side4 A29.out).mono ?_
         (case side1 => exact sW (Kd.C_below HR0_3.out HB.out))
         (case side2 => exact HC0_3.out)
         (case side3 => exact sW (Kd.C_below HR0_4.out HB.out))
         (case side4 => exact HC0_4.out)
         rintro e w46 ⟨rfl, hb⟩
         refine ⟨_, rfl, ?_⟩
         replace BK101 := aK BK101 hb
         replace BK102 := aK BK102 hb
         replace HB := aB HB hb
         (try clear hb)
         (try clear hb2)
         (try clear hk)
         (try clear hi)
         refine hK.out _ _ ⟨(blk_cell BK101.out 0).trans rfl, (blk_cell BK101.out 1).trans rfl, (blk_cell BK101.out 2).trans rfl, (blk_cell BK101.out 3).trans rfl, (blk_cell BK101.out 4).trans rfl, (blk_cell BK102.out 0).trans rfl, (blk_cell BK102.out 1).trans rfl, (blk_cell BK102.out 2).trans rfl, (blk_cell BK102.out 3).trans rfl, (blk_cell BK102.out 4).trans rfl⟩ (fun hHeld => ?_)
         clear hK K
         refine norm_ (a' := ?_) ?_ ?_
         rotate_left
         ·show Act.put _ (some 26) _ = _
          simp only [Act.put, List.setIfInBounds_toArray, List.set_cons_zero, List.set_cons_succ, i64_w, i32_w]
          rfl
         refine pV 3 27 rfl rfl ?_
         refine pV 4 28 rfl rfl ?_
         refine pV 5 29 rfl rfl ?_
         refine tV 6 30 rfl rfl ?_
         refine one_ (i := 7) (N := some 31) #[true, true, true, true, true, true, true, true, false, false, false, false, false, false, false, false, false, false, false, false, false, false, false, false, false] rfl rfl (one_of HT_.out (by kernel_rfl)) (by decide) (fun K hK => ?_)
         refine goes_ Tryd.func30 (by kernel_rfl) rfl #[.agg #[.int .u64 a0_0, .int .u64 a0_1, .int .u64 a0_2, .slice A0_3 l0_3.length c0_3, .slice A0_4 l0_4.length c0_4]] (by rfl) rfl rfl bM ?_
         with_reducible refine (ferruleref03_Good.calls kj4 a0_0 a0_1 a0_2 _ _ l0_3 _ _ l0_4 t109 _ ?side1 ?side2 ?side3 ?side4 A31.out).mono ?_
         (case side1 => exact sW (Kd.C_below HR0_3.out HB.out))
         (case side2 => exact HC0_3.out)
         (case side3 => exact sW (Kd.C_below HR0_4.out HB.out))
         (case side4 => exact HC0_4.out)
         rintro e w47 ⟨rfl, hb⟩
         refine ⟨_, rfl, ?_⟩
         replace BK101 := aK BK101 hb
         replace BK102 := aK BK102 hb
         replace HB := aB HB hb
         (try clear hb)
         (try clear hb2)
         (try clear hk)
         (try clear hi)
         refine hK.out _ _ ⟨(blk_cell BK101.out 0).trans rfl, (blk_cell BK101.out 1).trans rfl, (blk_cell BK101.out 2).trans rfl, (blk_cell BK101.out 3).trans rfl, (blk_cell BK101.out 4).trans rfl, (blk_cell BK102.out 0).trans rfl, (blk_cell BK102.out 1).trans rfl, (blk_cell BK102.out 2).trans rfl, (blk_cell BK102.out 3).trans rfl, (blk_cell BK102.out 4).trans rfl⟩ (fun hHeld => ?_)
         clear hK K
         refine norm_ (a' := ?_) ?_ ?_
         rotate_left
         ·show Act.put _ (some 31) _ = _
          simp only [Act.put, List.setIfInBounds_toArray, List.set_cons_zero, List.set_cons_succ, i64_w, i32_w]
          rfl
         refine pV 8 32 rfl rfl ?_
         refine pV 9 33 rfl rfl ?_
         refine pV 10 34 rfl rfl ?_
         refine tV 11 35 rfl rfl ?_
         refine tV 12 36 rfl rfl ?_
         refine tV 14 38 rfl rfl ?_
         refine tV 15 39 rfl rfl ?_
         refine one_ (i := 13) (N := some 37) #[true, true, true, true, true, true, true, true, true, true, true, true, true, true, true, true, false, false, false, false, false, false, false, false, false] rfl rfl (one_of HT_.out (by kernel_rfl)) (by decide) (fun K hK => ?_)
         refine goes_ Tryd.func37 (by kernel_rfl) rfl #[.agg #[.int .u64 a0_0, .int .u64 a0_1, .int .u64 a0_2, .slice A0_3 l0_3.length c0_3, .slice A0_4 l0_4.length c0_4], .agg #[.int .u64 a1_0, .int .u64 a1_1, .int .u64 a1_2, .slice A1_3 l1_3.length c1_3, .slice A1_4 l1_4.length c1_4]] (by rfl) rfl rfl bM ?_
         with_reducible refine (semver_Same.calls kj4 a0_0 a0_1 a0_2 _ _ l0_3 _ _ l0_4 a1_0 a1_1 a1_2 _ _ l1_3 _ _ l1_4 t110 _ ?side1 ?side2 ?side3 ?side4 ?side5 ?side6 ?side7 ?side8 A36.out).mono ?_
         (case side1 => exact sW (Kd.C_below HR0_3.out HB.out))
         (case side2 => exact HC0_3.out)
         (case side3 => exact sW (Kd.C_below HR0_4.out HB.out))
         (case side4 => exact HC0_4.out)
         (case side5 => exact sW (Kd.C_below HR1_3.out HB.out))
         (case side6 => exact HC1_3.out)
         (case side7 => exact sW (Kd.C_below HR1_4.out HB.out))
         (case side8 => exact HC1_4.out)
         rintro e w48 ⟨rfl, hb⟩
         refine ⟨_, rfl, ?_⟩
         replace BK101 := aK BK101 hb
         replace BK102 := aK BK102 hb
         replace HB := aB HB hb
         (try clear hb)
         (try clear hb2)
         (try clear hk)
         (try clear hi)
         refine hK.out _ _ ⟨(blk_cell BK101.out 0).trans rfl, (blk_cell BK101.out 1).trans rfl, (blk_cell BK101.out 2).trans rfl, (blk_cell BK101.out 3).trans rfl, (blk_cell BK101.out 4).trans rfl, (blk_cell BK102.out 0).trans rfl, (blk_cell BK102.out 1).trans rfl, (blk_cell BK102.out 2).trans rfl, (blk_cell BK102.out 3).trans rfl, (blk_cell BK102.out 4).trans rfl⟩ (fun hHeld => ?_)
         clear hK K
         refine norm_ (a' := ?_) ?_ ?_
         rotate_left
         ·show Act.put _ (some 37) _ = _
          simp only [Act.put, List.setIfInBounds_toArray, List.set_cons_zero, List.set_cons_succ, i64_w, i32_w]
          rfl
         refine one_ (i := 16) (N := some 40) #[true, true, true, true, true, true, true, true, true, true, true, true, true, true, true, true, true, false, false, false, false, false, false, false, false] rfl rfl (one_of HT_.out (by kernel_rfl)) (by decide) (fun K hK => ?_)
         refine goes_ Tryd.func27 (by kernel_rfl) rfl #[.agg #[.int .u64 a0_0, .int .u64 a0_1, .int .u64 a0_2, .slice A0_3 l0_3.length c0_3, .slice A0_4 l0_4.length c0_4], .agg #[.int .u64 a1_0, .int .u64 a1_1, .int .u64 a1_2, .slice A1_3 l1_3.length c1_3, .slice A1_4 l1_4.length c1_4]] (by rfl) rfl rfl bM ?_
         with_reducible refine (ferruleref03_Same.calls kj4 a0_0 a0_1 a0_2 _ _ l0_3 _ _ l0_4 a1_0 a1_1 a1_2 _ _ l1_3 _ _ l1_4 t111 _ ?side1 ?side2 ?side3 ?side4 ?side5 ?side6 ?side7 ?side8 A37.out).mono ?_
         (case side1 => exact sW (Kd.C_below HR0_3.out HB.out))
         (case side2 => exact HC0_3.out)
         (case side3 => exact sW (Kd.C_below HR0_4.out HB.out))
         (case side4 => exact HC0_4.out)
         (case side5 => exact sW (Kd.C_below HR1_3.out HB.out))
         (case side6 => exact HC1_3.out)
         (case side7 => exact sW (Kd.C_below HR1_4.out HB.out))
         (case side8 => exact HC1_4.out)
         rintro e w49 ⟨rfl, hb⟩
         refine ⟨_, rfl, ?_⟩
         replace BK101 := aK BK101 hb
         replace BK102 := aK BK102 hb
         replace HB := aB HB hb
         (try clear hb)
         (try clear hb2)
         (try clear hk)
         (try clear hi)
         refine hK.out _ _ ⟨(blk_cell BK101.out 0).trans rfl, (blk_cell BK101.out 1).trans rfl, (blk_cell BK101.out 2).trans rfl, (blk_cell BK101.out 3).trans rfl, (blk_cell BK101.out 4).trans rfl, (blk_cell BK102.out 0).trans rfl, (blk_cell BK102.out 1).trans rfl, (blk_cell BK102.out 2).trans rfl, (blk_cell BK102.out 3).trans rfl, (blk_cell BK102.out 4).trans rfl⟩ (fun hHeld => ?_)
         clear hK K
         refine norm_ (a' := ?_) ?_ ?_
         rotate_left
         ·show Act.put _ (some 40) _ = _
          simp only [Act.put, List.setIfInBounds_toArray, List.set_cons_zero, List.set_cons_succ, i64_w, i32_w]
          rfl
         refine pV 17 41 rfl rfl ?_
         refine pV 18 42 rfl rfl ?_
         refine pV 19 43 rfl rfl ?_
         refine tV 20 44 rfl rfl ?_
         refine tV 21 45 rfl rfl ?_
         refine one_ (i := 22) (N := some 46) #[true, true, true, true, true, true, true, true, true, true, true, true, true, true, true, true, true, true, true, true, true, true, true, false, false] rfl rfl (one_of HT_.out (by kernel_rfl)) (by decide) (fun K hK => ?_)
         refine goes_ Tryd.func37 (by kernel_rfl) rfl #[.agg #[.int .u64 a0_0, .int .u64 a0_1, .int .u64 a0_2, .slice A0_3 l0_3.length c0_3, .slice A0_4 l0_4.length c0_4], .agg #[.int .u64 a0_0, .int .u64 a0_1, .int .u64 a0_2, .slice A0_3 l0_3.length c0_3, .slice A0_4 l0_4.length c0_4]] (by rfl) rfl rfl bM ?_
         with_reducible refine (semver_Same.calls kj4 a0_0 a0_1 a0_2 _ _ l0_3 _ _ l0_4 a0_0 a0_1 a0_2 _ _ l0_3 _ _ l0_4 t112 _ ?side1 ?side2 ?side3 ?side4 ?side5 ?side6 ?side7 ?side8 A44.out).mono ?_
         (case side1 => exact sW (Kd.C_below HR0_3.out HB.out))
         (case side2 => exact HC0_3.out)
         (case side3 => exact sW (Kd.C_below HR0_4.out HB.out))
         (case side4 => exact HC0_4.out)
         (case side5 => exact sW (Kd.C_below HR0_3.out HB.out))
         (case side6 => exact HC0_3.out)
         (case side7 => exact sW (Kd.C_below HR0_4.out HB.out))
         (case side8 => exact HC0_4.out)
         rintro e w50 ⟨rfl, hb⟩
         refine ⟨_, rfl, ?_⟩
         replace BK101 := aK BK101 hb
         replace BK102 := aK BK102 hb
         replace HB := aB HB hb
         (try clear hb)
         (try clear hb2)
         (try clear hk)
         (try clear hi)
         refine hK.out _ _ ⟨(blk_cell BK101.out 0).trans rfl, (blk_cell BK101.out 1).trans rfl, (blk_cell BK101.out 2).trans rfl, (blk_cell BK101.out 3).trans rfl, (blk_cell BK101.out 4).trans rfl, (blk_cell BK102.out 0).trans rfl, (blk_cell BK102.out 1).trans rfl, (blk_cell BK102.out 2).trans rfl, (blk_cell BK102.out 3).trans rfl, (blk_cell BK102.out 4).trans rfl⟩ (fun hHeld => ?_)
         clear hK K
         refine norm_ (a' := ?_) ?_ ?_
         rotate_left
         ·show Act.put _ (some 46) _ = _
          simp only [Act.put, List.setIfInBounds_toArray, List.set_cons_zero, List.set_cons_succ, i64_w, i32_w]
          rfl
         refine pV 23 47 rfl rfl ?_
         refine pV 24 48 rfl rfl ?_
         refine done_ (done_of HT_.out (by kernel_rfl)) ?_
         try go_wp2
         go_meet
         case rel => exact ⟨_, (!t112), bS, H', ⟨by have := HJ4.out; first | omega | exact Nat.le_refl _⟩, ⟨aKw BK101⟩, ⟨aKw BK102⟩, ⟨bB⟩⟩
      ·rw [if_neg c30] at H
       have c30b0 : (t106.toList == t108.toList) = false := beq_eq_false_iff_ne.mpr c30
       have c30b1 : (t106.toList != t108.toList) = true := bne_iff_ne.mpr c30
       (first | rw [c30b0] | (simp only [i64_w, i32_w]; rw [c30b0]) | skip)
       have H' := Aside0.mk H
       clear H
       try go_wp2
       replace BK101 := Aside0.mk (blk_drew BK101.out)
       replace BK102 := Aside0.mk (blk_drew BK102.out)
       replace HB := Aside0.mk (below_drew1 HB.out)
       refine start_ (n := 25) (S := fun w' => w'.cell? ⟨gb101, 0, none⟩ = some (.int .u64 a0_0) ∧ w'.cell? ⟨gb101, 1, none⟩ = some (.int .u64 a0_1) ∧ w'.cell? ⟨gb101, 2, none⟩ = some (.int .u64 a0_2) ∧ w'.cell? ⟨gb101, 3, none⟩ = some (.slice A0_3 l0_3.length c0_3) ∧ w'.cell? ⟨gb101, 4, none⟩ = some (.slice A0_4 l0_4.length c0_4)) (ds := []) #[false, false, false, false, false, false, false, false, false, false, false, false, false, false, false, false, false, false, false, false, false, false, false, false, false] (by kernel_rfl) rfl rfl ⟨(blk_cell BK101.out 0).trans rfl, (blk_cell BK101.out 1).trans rfl, (blk_cell BK101.out 2).trans rfl, (blk_cell BK101.out 3).trans rfl, (blk_cell BK101.out 4).trans rfl⟩ (fun hHeld => ?_); refine with_tabW ferrulelaw03_SemverTexts.tab7 ferrulelaw03_SemverTexts.bits7 (fun HT_ HW_ => ?_)
       generalize w28.drew = w51 at BK101 BK102 HB hHeld ⊢
       refine pV 0 24 rfl rfl ?_
       refine tV 1 25 rfl rfl ?_
       refine one_ (i := 2) (N := some 26) #[true, true, true, false, false, false, false, false, false, false, false, false, false, false, false, false, false, false, false, false, false, false, false, false, false] rfl rfl (one_of HT_.out (by kernel_rfl)) (by decide) (fun K hK => ?_)
       refine goes_ Tryd.func46 (by kernel_rfl) rfl #[.agg #[.int .u64 a0_0, .int .u64 a0_1, .int .u64 a0_2, .slice A0_3 l0_3.length c0_3, .slice A0_4 l0_4.length c0_4]] (by rfl) rfl rfl bM ?_
       with_reducible refine (ferruleref03_Text.calls kj4 a0_0 a0_1 a0_2 _ _ l0_3 _ _ l0_4 t108 _ ?side1 ?side2 ?side3 ?side4 A29.out).mono ?_
       (case side1 => exact sW (Kd.C_below HR0_3.out HB.out))
       (case side2 => exact HC0_3.out)
       (case side3 => exact sW (Kd.C_below HR0_4.out HB.out))
       (case side4 => exact HC0_4.out)
       rintro e w52 ⟨rfl, hb⟩
       refine ⟨_, rfl, ?_⟩
       replace BK101 := aK BK101 hb
       replace BK102 := aK BK102 hb
       replace HB := aB HB hb
       (try clear hb)
       (try clear hb2)
       (try clear hk)
       (try clear hi)
       refine hK.out _ _ ⟨(blk_cell BK101.out 0).trans rfl, (blk_cell BK101.out 1).trans rfl, (blk_cell BK101.out 2).trans rfl, (blk_cell BK101.out 3).trans rfl, (blk_cell BK101.out 4).trans rfl⟩ (fun hHeld => ?_)
       clear hK K
       refine norm_ (a' := ?_) ?_ ?_
       rotate_left
       ·show Act.put _ (some 26) _ = _
        simp only [Act.put, List.setIfInBounds_toArray, List.set_cons_zero, List.set_cons_succ, i64_w, i32_w]
        rfl
       refine pV 3 27 rfl rfl ?_
       refine pV 4 28 rfl rfl ?_
       refine pU 5 29 rfl rfl ?_
       refine pU 6 30 rfl rfl ?_
       refine pU 7 31 rfl rfl ?_
       refine pU 8 32 rfl rfl ?_
       refine pV 9 33 rfl rfl ?_
       refine pV 10 34 rfl rfl ?_
       refine pU 11 35 rfl rfl ?_
       refine pU 12 36 rfl rfl ?_
       refine pU 13 37 rfl rfl ?_
       refine pU 14 38 rfl rfl ?_
       refine pU 15 39 rfl rfl ?_
       refine pU 16 40 rfl rfl ?_
       refine pU 17 41 rfl rfl ?_
       refine pV 18 42 rfl rfl ?_
       refine pV 19 43 rfl rfl ?_
       refine pU 20 44 rfl rfl ?_
       refine pU 21 45 rfl rfl ?_
       refine pU 22 46 rfl rfl ?_
       refine pU 23 47 rfl rfl ?_
       refine pV 24 48 rfl rfl ?_
       refine done_ (done_of HT_.out (by kernel_rfl)) ?_
       try go_wp2
       go_meet
       case rel => exact ⟨_, (true), bS, H', ⟨by have := HJ4.out; first | omega | exact Nat.le_refl _⟩, ⟨aKw BK101⟩, ⟨aKw BK102⟩, ⟨bB⟩⟩
     case rest =>
      clear HC23
      try clear c1
      try clear c2
      try clear p2
      try clear c3
      try clear c4
      try clear p6
      try clear c27
      try clear c30
      try clear c30b0
      try clear c30b1
      try clear c37
      try clear c38
      try clear c38b0
      try clear c38b1
      try clear c38b2
      try clear c46
      obtain ⟨kq, x48_22, rfl, HA, HJ22, BK101, BK102, HB⟩ := hcut
      cases kq with
      | zero => exact absurd HA.out (by simp [ferrulelaw03_SemverTexts.j1])
      | succ kj22 =>
       have H := HA.out
       clear HA
       simp only [ferrulelaw03_SemverTexts.j1] at H
       by_cases c53 : x48_22 = true
       ·subst c53
        have H1 : (some false) = some r := by rw [if_pos rfl] at H; exact H
        clear H
        have H := H1
        clear H1
        obtain rfl := Option.some.inj H
        go_wp2
        go_ret
        exact ⟨by first | rfl | (simp [errW_none, errW_some] <;> rfl) | (simp [*, errW_none, errW_some] <;> rfl), bB⟩
       ·replace c53 := Bool.eq_false_iff.mpr c53
        subst c53
        have H1 : (if t107 = true then ((semver_Read.f kj22 t106).bind fun bt113 => (if bt113.2.2.2.2.2.2 = 0 then ((ferruleref03_Same.f kj22 bt113.1 bt113.2.1 bt113.2.2.1 bt113.2.2.2.1 bt113.2.2.2.2.1 a0_0 a0_1 a0_2 l0_3 l0_4).bind fun t125 => (some t125)) else (some false))) else (some true)) = some r := by rw [if_neg (show ¬ (false = true) by decide)] at H; exact H
        clear H
        have H := H1
        clear H1
        by_cases c54 : t107 = true
        ·subst c54
         have H1 : ((semver_Read.f kj22 t106).bind fun bt113 => (if bt113.2.2.2.2.2.2 = 0 then ((ferruleref03_Same.f kj22 bt113.1 bt113.2.1 bt113.2.2.1 bt113.2.2.2.1 bt113.2.2.2.2.1 a0_0 a0_1 a0_2 l0_3 l0_4).bind fun t125 => (some t125)) else (some false))) = some r := by rw [if_pos rfl] at H; exact H
         clear H
         have H := H1
         clear H1
         replace H := Option.bind_eq_some_iff.mp H
         obtain ⟨⟨t113, t114, t115, t116, t119, t122, t123⟩, A550, H⟩ := H
         replace H : (if t123 = 0 then ((ferruleref03_Same.f kj22 t113 t114 t115 t116 t119 a0_0 a0_1 a0_2 l0_3 l0_4).bind fun t125 => (some t125)) else (some false)) = some r := H
         have A55 := Aside0.mk A550
         clear A550
         by_cases c56 : t123 = 0
         ·rw [if_pos c56] at H
          have c56b0 : (t123 == 0) = true := beq_iff_eq.mpr c56
          have c56b1 : (t123 != 0) = false := bne_eq_false_iff_eq.mpr c56
          clear c56
          replace H := Option.bind_eq_some_iff.mp H
          obtain ⟨t125, A570, H⟩ := H
          replace H : (some t125) = some r := H
          have A57 := Aside0.mk A570
          clear A570
          obtain rfl := Option.some.inj H
          go_wp2_with (first | ((with_reducible refine gate_callee (f := 35) rfl ?_); refine goesL_ (some 53) rfl rfl Tryd.func35 (by kernel_rfl) rfl #[.string t106] rfl bM ?_; (with_reducible refine (semver_Read.calls kj22 t106 t113 t114 t115 t116 t119 t122 t123 _ A55.out).mono ?_); rintro e w58 ⟨v117, v120, rfl, ho0, ho1, hb⟩; refine ⟨_, rfl, ?_⟩; have HO118 := aL ho0 HB; have HO121 := aL ho1 HB; replace BK101 := aK BK101 hb; replace BK102 := aK BK102 hb; replace HB := aB HB hb; (try clear hb); (try clear hb2); (try clear hk); (try clear hi); (try clear ho0); (try clear ho1)) | ((with_reducible refine gate_dst (N := 7) rfl ?_); refine box_event ?hg (N := 7) ?hd (cs := #[.int .u64 0, .int .u64 0, .int .u64 0, .slice none 0 0, .slice none 0 0]) (t := 40) ?hr ?_; (case hd => rfl); (case hg => rfl); (case hr => first | (go_simp; done) | (go_simp; rfl)); intro gb124 hg w59 hbox hb; replace HO118 := aR HO118 hb; replace HO121 := aR HO121 hb; have BK124 := Aside0.mk hbox; have GW124 := Aside0.mk ((by rw [hg]; exact (below_size bB) : w.heap.size ≤ gb124)); have GE124 := Aside0.mk ((by rw [hg]; exact (below_size bB) : w.heap.size ≤ gb124)); replace HB := aB HB hb; have NB101_124 := Aside0.mk ((by rw [hg]; exact Nat.ne_of_lt (blk_lt (g := gb101) (o := .cells #[.int .u64 a0_0, .int .u64 a0_1, .int .u64 a0_2, .slice A0_3 l0_3.length c0_3, .slice A0_4 l0_4.length c0_4] 40 (0, 0)) (aKw BK101)) : gb101 ≠ gb124)); have NB124_101 := Aside0.mk ((by rw [hg]; exact Nat.ne_of_gt (blk_lt (g := gb101) (o := .cells #[.int .u64 a0_0, .int .u64 a0_1, .int .u64 a0_2, .slice A0_3 l0_3.length c0_3, .slice A0_4 l0_4.length c0_4] 40 (0, 0)) (aKw BK101)) : gb124 ≠ gb101)); replace BK101 := aK BK101 hb; have NB102_124 := Aside0.mk ((by rw [hg]; exact Nat.ne_of_lt (blk_lt (g := gb102) (o := .cells #[.int .u64 a1_0, .int .u64 a1_1, .int .u64 a1_2, .slice A1_3 l1_3.length c1_3, .slice A1_4 l1_4.length c1_4] 40 (0, 0)) (aKw BK102)) : gb102 ≠ gb124)); have NB124_102 := Aside0.mk ((by rw [hg]; exact Nat.ne_of_gt (blk_lt (g := gb102) (o := .cells #[.int .u64 a1_0, .int .u64 a1_1, .int .u64 a1_2, .slice A1_3 l1_3.length c1_3, .slice A1_4 l1_4.length c1_4] 40 (0, 0)) (aKw BK102)) : gb124 ≠ gb102)); replace BK102 := aK BK102 hb; clear hb hbox hg; have hnb60 := NB124_101.out; have hnc60 := NB101_124.out; have hnb61 := NB124_102.out; have hnc61 := NB102_124.out; have hcz62_0 : w59.cell? ⟨gb124, 0, none⟩ = some (.int .u64 0) := (blk_cell BK124.out 0).trans rfl; have hcz62_1 : w59.cell? ⟨gb124, 1, none⟩ = some (.int .u64 0) := (blk_cell BK124.out 1).trans rfl; have hcz62_2 : w59.cell? ⟨gb124, 2, none⟩ = some (.int .u64 0) := (blk_cell BK124.out 2).trans rfl; have hcz62_3 : w59.cell? ⟨gb124, 3, none⟩ = some (.slice none 0 0) := (blk_cell BK124.out 3).trans rfl; have hcz62_4 : w59.cell? ⟨gb124, 4, none⟩ = some (.slice none 0 0) := (blk_cell BK124.out 4).trans rfl; have hfz62_0 := blk_frozen BK124.out 0; have hfz62_1 := blk_frozen BK124.out 1; have hfz62_2 := blk_frozen BK124.out 2; have hfz62_3 := blk_frozen BK124.out 3; have hfz62_4 := blk_frozen BK124.out 4; obtain ⟨Ao63, co63, eo63⟩ := Kd.R_slice HO118.out; subst eo63; obtain ⟨Ao64, co64, eo64⟩ := Kd.R_slice HO121.out; subst eo64; have hnb65 := NB101_102.out; have hnc65 := NB102_101.out; have hcz66_0 : w59.cell? ⟨gb101, 0, none⟩ = some (.int .u64 a0_0) := (blk_cell BK101.out 0).trans rfl; have hcz66_1 : w59.cell? ⟨gb101, 1, none⟩ = some (.int .u64 a0_1) := (blk_cell BK101.out 1).trans rfl; have hcz66_2 : w59.cell? ⟨gb101, 2, none⟩ = some (.int .u64 a0_2) := (blk_cell BK101.out 2).trans rfl; have hcz66_3 : w59.cell? ⟨gb101, 3, none⟩ = some (.slice A0_3 l0_3.length c0_3) := (blk_cell BK101.out 3).trans rfl; have hcz66_4 : w59.cell? ⟨gb101, 4, none⟩ = some (.slice A0_4 l0_4.length c0_4) := (blk_cell BK101.out 4).trans rfl; have hfz66_0 := blk_frozen BK101.out 0; have hfz66_1 := blk_frozen BK101.out 1; have hfz66_2 := blk_frozen BK101.out 2; have hfz66_3 := blk_frozen BK101.out 3; have hfz66_4 := blk_frozen BK101.out 4) | (go_at_call 27; (with_reducible refine (ferruleref03_Same.calls kj22 t113 t114 t115 _ _ t116 _ _ t119 a0_0 a0_1 a0_2 _ _ l0_3 _ _ l0_4 t125 _ ?side1 ?side2 ?side3 ?side4 ?side5 ?side6 ?side7 ?side8 A57.out).mono ?_); (case side1 => refine (Kd.R_reads' (e := 9) (base := w.heap.size) (ok := fun k_ => some k_ ≠ ob Ao64 t119 co64) (n := t116.length) (c := co63) ?_).2.2; exact (aS HO118 BK124)); (case side2 => exact (Kd.R_reads' HO118.out).2.1); (case side3 => refine (Kd.R_reads' (e := 9) (base := w.heap.size) (ok := fun k_ => some k_ ≠ ob Ao63 t116 co63) (n := t119.length) (c := co64) ?_).2.2; exact (aS HO121 BK124)); (case side4 => exact (Kd.R_reads' HO121.out).2.1); (case side5 => exact Kd.C_below HR0_3.out bB); (case side6 => exact HC0_3.out); (case side7 => exact Kd.C_below HR0_4.out bB); (case side8 => exact HC0_4.out); rintro e w67 ⟨rfl, hb⟩; replace HO118 := Aside0.mk (Kd.R_below (aS HO118 BK124) hb); replace HO121 := Aside0.mk (Kd.R_below (aS HO121 BK124) hb); replace BK101 := Aside0.mk (blk_below (g := gb101) (o := .cells #[.int .u64 a0_0, .int .u64 a0_1, .int .u64 a0_2, .slice A0_3 l0_3.length c0_3, .slice A0_4 l0_4.length c0_4] 40 (0, 0)) (aKf BK101) hb); replace BK102 := Aside0.mk (blk_below (g := gb102) (o := .cells #[.int .u64 a1_0, .int .u64 a1_1, .int .u64 a1_2, .slice A1_3 l1_3.length c1_3, .slice A1_4 l1_4.length c1_4] 40 (0, 0)) (aKf BK102) hb); replace BK124 := Aside0.mk (blk_below (g := gb124) (o := .cells #[.int .u64 t113, .int .u64 t114, .int .u64 t115, .slice Ao63 t116.length co63, .slice Ao64 t119.length co64] 40 (0, 0)) (by (with_reducible repeat (first | refine blk_drewN ?_ _ | refine blk_drew ?_ | refine blk_alloc ?_ _)); refine blk_put (cs := #[.int .u64 t113, .int .u64 t114, .int .u64 t115, .slice Ao63 t116.length co63, .slice none 0 0]) ?_ 4 _ rfl; (with_reducible repeat (first | refine blk_drewN ?_ _ | refine blk_drew ?_ | refine blk_alloc ?_ _)); refine blk_put (cs := #[.int .u64 t113, .int .u64 t114, .int .u64 t115, .slice none 0 0, .slice none 0 0]) ?_ 3 _ rfl; (with_reducible repeat (first | refine blk_drewN ?_ _ | refine blk_drew ?_ | refine blk_alloc ?_ _)); refine blk_put (cs := #[.int .u64 t113, .int .u64 t114, .int .u64 0, .slice none 0 0, .slice none 0 0]) ?_ 2 _ rfl; (with_reducible repeat (first | refine blk_drewN ?_ _ | refine blk_drew ?_ | refine blk_alloc ?_ _)); refine blk_put (cs := #[.int .u64 t113, .int .u64 0, .int .u64 0, .slice none 0 0, .slice none 0 0]) ?_ 1 _ rfl; (with_reducible repeat (first | refine blk_drewN ?_ _ | refine blk_drew ?_ | refine blk_alloc ?_ _)); refine blk_put (cs := #[.int .u64 0, .int .u64 0, .int .u64 0, .slice none 0 0, .slice none 0 0]) ?_ 0 _ rfl; (with_reducible repeat (first | refine blk_drewN ?_ _ | refine blk_drew ?_ | refine blk_alloc ?_ _)); exact BK124.out) hb); replace HB := aB HB hb; (try clear hb); (try clear hb2); (try clear hk); (try clear hi)))
          go_ret
          exact ⟨by first | rfl | (simp [errW_none, errW_some] <;> rfl) | (simp [*, errW_none, errW_some] <;> rfl), bB⟩
         ·rw [if_neg c56] at H
          have c56b0 : (t123 == 0) = false := beq_eq_false_iff_ne.mpr c56
          have c56b1 : (t123 != 0) = true := bne_iff_ne.mpr c56
          obtain rfl := Option.some.inj H
          go_wp2_with (first | ((with_reducible refine gate_callee (f := 35) rfl ?_); refine goesL_ (some 53) rfl rfl Tryd.func35 (by kernel_rfl) rfl #[.string t106] rfl bM ?_; (with_reducible refine (semver_Read.calls kj22 t106 t113 t114 t115 t116 t119 t122 t123 _ A55.out).mono ?_); rintro e w68 ⟨v117, v120, rfl, ho0, ho1, hb⟩; refine ⟨_, rfl, ?_⟩; have HO118 := aL ho0 HB; have HO121 := aL ho1 HB; replace BK101 := aK BK101 hb; replace BK102 := aK BK102 hb; replace HB := aB HB hb; (try clear hb); (try clear hb2); (try clear hk); (try clear hi); (try clear ho0); (try clear ho1)) | ((with_reducible refine gate_dst (N := 7) rfl ?_); refine box_event ?hg (N := 7) ?hd (cs := #[.int .u64 0, .int .u64 0, .int .u64 0, .slice none 0 0, .slice none 0 0]) (t := 40) ?hr ?_; (case hd => rfl); (case hg => rfl); (case hr => first | (go_simp; done) | (go_simp; rfl)); intro gb124 hg w69 hbox hb; replace HO118 := aR HO118 hb; replace HO121 := aR HO121 hb; have BK124 := Aside0.mk hbox; have GW124 := Aside0.mk ((by rw [hg]; exact (below_size bB) : w.heap.size ≤ gb124)); have GE124 := Aside0.mk ((by rw [hg]; exact (below_size bB) : w.heap.size ≤ gb124)); replace HB := aB HB hb; have NB101_124 := Aside0.mk ((by rw [hg]; exact Nat.ne_of_lt (blk_lt (g := gb101) (o := .cells #[.int .u64 a0_0, .int .u64 a0_1, .int .u64 a0_2, .slice A0_3 l0_3.length c0_3, .slice A0_4 l0_4.length c0_4] 40 (0, 0)) (aKw BK101)) : gb101 ≠ gb124)); have NB124_101 := Aside0.mk ((by rw [hg]; exact Nat.ne_of_gt (blk_lt (g := gb101) (o := .cells #[.int .u64 a0_0, .int .u64 a0_1, .int .u64 a0_2, .slice A0_3 l0_3.length c0_3, .slice A0_4 l0_4.length c0_4] 40 (0, 0)) (aKw BK101)) : gb124 ≠ gb101)); replace BK101 := aK BK101 hb; have NB102_124 := Aside0.mk ((by rw [hg]; exact Nat.ne_of_lt (blk_lt (g := gb102) (o := .cells #[.int .u64 a1_0, .int .u64 a1_1, .int .u64 a1_2, .slice A1_3 l1_3.length c1_3, .slice A1_4 l1_4.length c1_4] 40 (0, 0)) (aKw BK102)) : gb102 ≠ gb124)); have NB124_102 := Aside0.mk ((by rw [hg]; exact Nat.ne_of_gt (blk_lt (g := gb102) (o := .cells #[.int .u64 a1_0, .int .u64 a1_1, .int .u64 a1_2, .slice A1_3 l1_3.length c1_3, .slice A1_4 l1_4.length c1_4] 40 (0, 0)) (aKw BK102)) : gb124 ≠ gb102)); replace BK102 := aK BK102 hb; clear hb hbox hg; have hnb70 := NB124_101.out; have hnc70 := NB101_124.out; have hnb71 := NB124_102.out; have hnc71 := NB102_124.out; have hcz72_0 : w69.cell? ⟨gb124, 0, none⟩ = some (.int .u64 0) := (blk_cell BK124.out 0).trans rfl; have hcz72_1 : w69.cell? ⟨gb124, 1, none⟩ = some (.int .u64 0) := (blk_cell BK124.out 1).trans rfl; have hcz72_2 : w69.cell? ⟨gb124, 2, none⟩ = some (.int .u64 0) := (blk_cell BK124.out 2).trans rfl; have hcz72_3 : w69.cell? ⟨gb124, 3, none⟩ = some (.slice none 0 0) := (blk_cell BK124.out 3).trans rfl; have hcz72_4 : w69.cell? ⟨gb124, 4, none⟩ = some (.slice none 0 0) := (blk_cell BK124.out 4).trans rfl; have hfz72_0 := blk_frozen BK124.out 0; have hfz72_1 := blk_frozen BK124.out 1; have hfz72_2 := blk_frozen BK124.out 2; have hfz72_3 := blk_frozen BK124.out 3; have hfz72_4 := blk_frozen BK124.out 4; obtain ⟨Ao73, co73, eo73⟩ := Kd.R_slice HO118.out; subst eo73; obtain ⟨Ao74, co74, eo74⟩ := Kd.R_slice HO121.out; subst eo74))
          go_ret
          exact ⟨by first | rfl | (simp [errW_none, errW_some] <;> rfl) | (simp [*, errW_none, errW_some] <;> rfl), bB⟩
        ·replace c54 := Bool.eq_false_iff.mpr c54
         subst c54
         have H1 : (some true) = some r := by rw [if_neg (show ¬ (false = true) by decide)] at H; exact H
         clear H
         have H := H1
         clear H1
         obtain rfl := Option.some.inj H
         go_wp2
         go_ret
         exact ⟨by first | rfl | (simp [errW_none, errW_some] <;> rfl) | (simp [*, errW_none, errW_some] <;> rfl), bB⟩
 ·replace c4 := Bool.eq_false_iff.mpr c4
  subst c4
  have H1 : (some false) = some r := by rw [if_neg (show ¬ (false = true) by decide)] at H; exact H
  clear H
  have H := H1
  clear H1
  obtain rfl := Option.some.inj H
  go_enter Tryd.func12, Tryd.ntmps12
  go_wp2_with (first | ((with_reducible refine gate_dst (N := 2) rfl ?_); refine box_event ?hg (N := 2) ?hd (cs := #[.int .u64 a0_0, .int .u64 a0_1, .int .u64 a0_2, .slice A0_3 l0_3.length c0_3, .slice A0_4 l0_4.length c0_4]) (t := 40) ?hr ?_; (case hd => rfl); (case hg => rfl); (case hr => first | (go_simp; done) | (go_simp; rfl)); intro gb101 hg w75 hbox hb; have BK101 := Aside0.mk hbox; have GW101 := Aside0.mk ((by rw [hg]; exact (below_size bB) : w.heap.size ≤ gb101)); have GE101 := Aside0.mk ((by rw [hg]; exact (below_size bB) : w.heap.size ≤ gb101)); replace HB := aB HB hb; clear hb hbox hg) | ((with_reducible refine gate_dst (N := 3) rfl ?_); refine box_event ?hg (N := 3) ?hd (cs := #[.int .u64 a1_0, .int .u64 a1_1, .int .u64 a1_2, .slice A1_3 l1_3.length c1_3, .slice A1_4 l1_4.length c1_4]) (t := 40) ?hr ?_; (case hd => rfl); (case hg => rfl); (case hr => first | (go_simp; done) | (go_simp; rfl)); intro gb102 hg w76 hbox hb; have BK102 := Aside0.mk hbox; have GW102 := Aside0.mk ((by rw [hg]; exact (below_size bB) : w.heap.size ≤ gb102)); have GE102 := Aside0.mk ((by rw [hg]; exact (below_size bB) : w.heap.size ≤ gb102)); replace HB := aB HB hb; have NB101_102 := Aside0.mk ((by rw [hg]; exact Nat.ne_of_lt (blk_lt (g := gb101) (o := .cells #[.int .u64 a0_0, .int .u64 a0_1, .int .u64 a0_2, .slice A0_3 l0_3.length c0_3, .slice A0_4 l0_4.length c0_4] 40 (0, 0)) (aKw BK101)) : gb101 ≠ gb102)); have NB102_101 := Aside0.mk ((by rw [hg]; exact Nat.ne_of_gt (blk_lt (g := gb101) (o := .cells #[.int .u64 a0_0, .int .u64 a0_1, .int .u64 a0_2, .slice A0_3 l0_3.length c0_3, .slice A0_4 l0_4.length c0_4] 40 (0, 0)) (aKw BK101)) : gb102 ≠ gb101)); replace BK101 := aK BK101 hb; clear hb hbox hg) | ((with_reducible refine gate_callee (f := 32) rfl ?_); refine goesL_ (some 10) rfl rfl Tryd.func32 (by kernel_rfl) rfl #[] rfl bM ?_; (with_reducible refine (ferrulelaw03_awake.calls k  false _ A3.out).mono ?_); rintro e w77 ⟨rfl, hb⟩; refine ⟨_, rfl, ?_⟩; replace BK101 := aK BK101 hb; replace BK102 := aK BK102 hb; replace HB := aB HB hb; (try clear hb); (try clear hb2); (try clear hk); (try clear hi)))
  go_ret
  exact ⟨by first | rfl | (simp [errW_none, errW_some] <;> rfl) | (simp [*, errW_none, errW_some] <;> rfl), bB⟩

def ferrulelaw03_SemverTexts.Pure : Prop := ∀ (a0_0 : Int) (a0_1 : Int) (a0_2 : Int) (l0_3 : List ByteArray) (l0_4 : List ByteArray) (a1_0 : Int) (a1_1 : Int) (a1_2 : Int) (l1_3 : List ByteArray) (l1_4 : List ByteArray), (Lit.int .u64 a0_0).wf = true → (Lit.int .u64 a0_1).wf = true → (Lit.int .u64 a0_2).wf = true → (fun l : (List ByteArray) => l.length ≤ maxLen ∧ ∀ x ∈ l, (fun s : ByteArray => s.size ≤ maxLen) x) l0_3 → (fun l : (List ByteArray) => l.length ≤ maxLen ∧ ∀ x ∈ l, (fun s : ByteArray => s.size ≤ maxLen) x) l0_4 → (Lit.int .u64 a1_0).wf = true → (Lit.int .u64 a1_1).wf = true → (Lit.int .u64 a1_2).wf = true → (fun l : (List ByteArray) => l.length ≤ maxLen ∧ ∀ x ∈ l, (fun s : ByteArray => s.size ≤ maxLen) x) l1_3 → (fun l : (List ByteArray) => l.length ≤ maxLen ∧ ∀ x ∈ l, (fun s : ByteArray => s.size ≤ maxLen) x) l1_4 → ∃ k, ferrulelaw03_SemverTexts.f k a0_0 a0_1 a0_2 l0_3 l0_4 a1_0 a1_1 a1_2 l1_3 l1_4 = some true

end Go.Proofs.YtildmfegfkiknaaDoor.X
