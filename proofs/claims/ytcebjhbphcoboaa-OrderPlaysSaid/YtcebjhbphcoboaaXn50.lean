-- Written by a program of this session (wip/xp), out of the translation. Not trusted: Lean checks it.
import Derived.Test.YtcebjhbphcoboaaX0
import Derived.Test.YtcebjhbphcoboaaXn82
import Derived.Test.YtcebjhbphcoboaaXn47
import Derived.Test.YtcebjhbphcoboaaXn48
import Derived.Test.YtcebjhbphcoboaaXm
import Derived.Test.YtcebjhbphcoboaaXn84
import Derived.Test.YtcebjhbphcoboaaXn85
-- shrunk
namespace Go.Proofs.Ytcebjhbphcoboaa.X
open Go.RowKit Go.Proofs.YtcebjhbphcoboaaW.PrintWords Go.Proofs.YtcebjhbphcoboaaW.PrintLast Go.Proofs.YtcebjhbphcoboaaW.PrintMore
attribute [local go_sem] Lab.str_gtr Lab.str_leq Lab.str_geq max2_int min2_int max_two min_two max_three min_three max_four min_four   -- for this text's walks alone
set_option linter.unusedVariables false
set_option linter.unusedSimpArgs false

/-! ### ferruleref15_Explain: function 50 -/
def ferruleref15_Explain.j0 : Nat → List Int → List Int → Int → Bool → Int → Int → Int → Option (List Int × Bool)
 | 0, _, _, _, _, _, _, _ => none
 | k + 1, x0, x1, x2, x23, x106000, x106001, x106002 => if x23 = true then (some (([] : List Int), false)) else ((ferruleref15_Of.f k x0 x106001 x1).bind fun t107 => (if t107.length < 17592186044416 then ((some (t107 ++ [wrap64 (-x2)] : List Int)).bind fun y110 => ((ferruleref15_Allowed.f k x0 x106001 y110).bind fun t113 => (if (t113.length : Int) > 0 then (some (([] : List Int), false)) else ((ferruleref15_Explained.f k x0 x106001 y110 1).bind fun t116 => ((ferruleref15_Negated.f k t116).bind fun t119 => (some (t119, true))))))) else (none)))
def ferruleref15_Explain.f (k : Nat) (l0 : List Int) (l1 : List Int) (a2 : Int) : Option (List Int × Bool) := (ferruleref15_Atom.f k l0 a2).bind fun bt101 => (if bt101.2.2.2 = true then ((ferruleref12_Has.f k l1 a2).bind fun t106 => (ferruleref15_Explain.j0 k l0 l1 a2 t106 bt101.1 bt101.2.1 bt101.2.2.1)) else (ferruleref15_Explain.j0 k l0 l1 a2 true bt101.1 bt101.2.1 bt101.2.2.1))
theorem ferruleref15_Explain.mono_l : ∀ k, (∀ y0 y1 y2 y3 y4 y5 y6, LeO (ferruleref15_Explain.j0 k y0 y1 y2 y3 y4 y5 y6) (ferruleref15_Explain.j0 (k + 1) y0 y1 y2 y3 y4 y5 y6))
 | 0 => fun _ _ _ _ _ _ _ r h => by simp [ferruleref15_Explain.j0] at h
 | k + 1 => by
  have ih0 := ferruleref15_Explain.mono_l k
  ·intro y0 y1 y2 y3 y4 y5 y6
   unfold ferruleref15_Explain.j0
   repeat' first
   | (with_reducible exact ih0 _ _ _ _ _ _ _)
   | (with_reducible exact ferruleref12_Has.mono _ _ _)
   | (with_reducible exact ferruleref15_Allowed.mono _ _ _ _)
   | (with_reducible exact ferruleref15_Atom.mono _ _ _)
   | (with_reducible exact ferruleref15_Explained.mono _ _ _ _ _)
   | (with_reducible exact ferruleref15_Negated.mono _ _)
   | (with_reducible exact ferruleref15_Of.mono _ _ _ _)
   | (with_reducible exact LeO.refl _)
   | (with_reducible exact LeO.none _)
   | (with_reducible refine LeO.ite ?_ ?_)
   | (with_reducible refine LeO.bind ?_ (fun _ => ?_))
   | exact ih0 _ _ _ _ _ _ _
   | exact ferruleref12_Has.mono _ _ _
   | exact ferruleref15_Allowed.mono _ _ _ _
   | exact ferruleref15_Atom.mono _ _ _
   | exact ferruleref15_Explained.mono _ _ _ _ _
   | exact ferruleref15_Negated.mono _ _
   | exact ferruleref15_Of.mono _ _ _ _
   | exact LeO.none _
   | refine LeO.ite ?_ ?_
   | refine LeO.bind ?_ (fun _ => ?_)
theorem ferruleref15_Explain.mono : ∀ a0 a1 a2 k, LeO (ferruleref15_Explain.f k a0 a1 a2) (ferruleref15_Explain.f (k + 1) a0 a1 a2) := by
 intro a0 a1 a2 k
 have ih0 := ferruleref15_Explain.mono_l k
 unfold ferruleref15_Explain.f
 repeat' first
   | (with_reducible exact ih0 _ _ _ _ _ _ _)
   | (with_reducible exact ferruleref12_Has.mono _ _ _)
   | (with_reducible exact ferruleref15_Allowed.mono _ _ _ _)
   | (with_reducible exact ferruleref15_Atom.mono _ _ _)
   | (with_reducible exact ferruleref15_Explained.mono _ _ _ _ _)
   | (with_reducible exact ferruleref15_Negated.mono _ _)
   | (with_reducible exact ferruleref15_Of.mono _ _ _ _)
   | (with_reducible exact LeO.refl _)
   | (with_reducible exact LeO.none _)
   | (with_reducible refine LeO.ite ?_ ?_)
   | (with_reducible refine LeO.bind ?_ (fun _ => ?_))
   | exact ih0 _ _ _ _ _ _ _
   | exact ferruleref12_Has.mono _ _ _
   | exact ferruleref15_Allowed.mono _ _ _ _
   | exact ferruleref15_Atom.mono _ _ _
   | exact ferruleref15_Explained.mono _ _ _ _ _
   | exact ferruleref15_Negated.mono _ _
   | exact ferruleref15_Of.mono _ _ _ _
   | exact LeO.none _
   | refine LeO.ite ?_ ?_
   | refine LeO.bind ?_ (fun _ => ?_)
set_option maxHeartbeats 8000000 in
set_option maxRecDepth 100000 in
theorem ferruleref15_Explain.calls (k : Nat) (A0 : Option Addr) (c0 : Nat) (l0 : List Int) (A1 : Option Addr) (c1 : Nat) (l1 : List Int) (a2 : Int) (r1 : List Int) (r2 : Bool) (w : World) (hr0 : Kd.C (Kd.int .i64) w A0 l0.length l0) (hc0 : l0.length ≤ c0) (hr1 : Kd.C (Kd.int .i64) w A1 l1.length l1) (hc1 : l1.length ≤ c1) (h : ferruleref15_Explain.f k l0 l1 a2 = some (r1, r2)) :
  Calls Try.prog 50 #[.slice A0 l0.length c0, .slice A1 l1.length c1, .int .i64 a2] w fun e w' => ∃ v0_ : Value, e = .returned (.tuple #[v0_, .bool r2]) ∧ Kd.R (Kd.int .i64) 3 w' w.heap.size (fun _ => True) v0_ r1 ∧ Below w.heap.size w w' := by
 have hu111 := Try.underlying111
 have HR0 := Aside0.mk hr0
 have HC0 := Aside0.mk hc0
 clear hr0 hc0
 have HR1 := Aside0.mk hr1
 have HC1 := Aside0.mk hc1
 clear hr1 hc1
 have HB := Aside0.mk (Below.refl w.heap.size w)
 have H : ((ferruleref15_Atom.f k l0 a2).bind fun bt101 => (if bt101.2.2.2 = true then ((ferruleref12_Has.f k l1 a2).bind fun t106 => (ferruleref15_Explain.j0 k l0 l1 a2 t106 bt101.1 bt101.2.1 bt101.2.2.1)) else (ferruleref15_Explain.j0 k l0 l1 a2 true bt101.1 bt101.2.1 bt101.2.2.1))) = some (r1, r2) := h
 clear h
 replace H := Option.bind_eq_some_iff.mp H
 obtain ⟨⟨t101, t102, t103, t104⟩, A40, H⟩ := H
 replace H : (if t104 = true then ((ferruleref12_Has.f k l1 a2).bind fun t106 => (ferruleref15_Explain.j0 k l0 l1 a2 t106 t101 t102 t103)) else (ferruleref15_Explain.j0 k l0 l1 a2 true t101 t102 t103)) = some (r1, r2) := H
 have A4 := Aside0.mk A40
 clear A40
 have HC5 := Aside0.mk H
 clear H
 go_enter Try.func50, Try.ntmps50
 go_upto_region 2 with (first | ((with_reducible refine gate_callee (f := 82) rfl ?_); refine goesL_ (some 14) rfl rfl Try.func82 (by kernel_rfl) rfl #[.slice A0 l0.length c0, .int .i64 a2] rfl bM ?_; (with_reducible refine (ferruleref15_Atom.calls k _ _ l0 a2 t101 t102 t103 t104 _ ?side1 ?side2 A4.out).mono ?_); (case side1 => repeat (first | exact HR0.out | (with_reducible refine Kd.C_alloc ?_ _) | (with_reducible refine Kd.C_drewN ?_ _) | (with_reducible refine Kd.C_drew ?_))); (case side2 => exact HC0.out); rintro e w6 ⟨rfl, hb⟩; refine ⟨_, rfl, ?_⟩; replace HB := aB HB hb; (try clear hb); (try clear hb2); (try clear hk); (try clear hi)) | ((with_reducible refine gate_dst (N := 8) rfl ?_); refine box_event ?hg (N := 8) ?hd (cs := #[.int .i64 0, .int .i64 0, .int .i64 0]) (t := 111) ?hr ?_; (case hd => rfl); (case hg => rfl); (case hr => first | (go_simp; done) | (go_simp; rfl)); intro gb105 hg w7 hbox hb; have BK105 := Aside0.mk hbox; have GW105 := Aside0.mk ((by rw [hg]; exact (below_size bB) : w.heap.size ≤ gb105)); have GE105 := Aside0.mk ((by rw [hg]; exact (below_size bB) : w.heap.size ≤ gb105)); replace HB := aB HB hb; clear hb hbox hg; have hcz8_0 : w7.cell? ⟨gb105, 0, none⟩ = some (.int .i64 0) := (blk_cell BK105.out 0).trans rfl; have hcz8_1 : w7.cell? ⟨gb105, 1, none⟩ = some (.int .i64 0) := (blk_cell BK105.out 1).trans rfl; have hcz8_2 : w7.cell? ⟨gb105, 2, none⟩ = some (.int .i64 0) := (blk_cell BK105.out 2).trans rfl; have hfz8_0 := blk_frozen BK105.out 0; have hfz8_1 := blk_frozen BK105.out 1; have hfz8_2 := blk_frozen BK105.out 2))
 (try simp only [Act.put, List.setIfInBounds_toArray, List.set_cons_zero, List.set_cons_succ])
 go_cut [23] (fun v23 wc => ∃ (kq : Nat) (x23_4 : Bool), v23 = .bool x23_4 ∧ Aside0 (ferruleref15_Explain.j0 kq l0 l1 a2 x23_4 t101 t102 t103 = some (r1, r2)) ∧ Aside0 (kq ≤ k) ∧ Aside0 (wc.heap[gb105]? = some (.cells #[.int .i64 t101, .int .i64 t102, .int .i64 t103] 111 (0, 0))) ∧ Aside0 (Below w.heap.size w wc))
 case first =>
  have H := HC5.out
  clear HC5
  by_cases c9 : t104 = true
  ·subst c9
   have H1 : ((ferruleref12_Has.f k l1 a2).bind fun t106 => (ferruleref15_Explain.j0 k l0 l1 a2 t106 t101 t102 t103)) = some (r1, r2) := by rw [if_pos rfl] at H; exact H
   clear H
   have H := H1
   clear H1
   replace H := Option.bind_eq_some_iff.mp H
   obtain ⟨t106, A100, H⟩ := H
   replace H : (ferruleref15_Explain.j0 k l0 l1 a2 t106 t101 t102 t103) = some (r1, r2) := H
   have A10 := Aside0.mk A100
   clear A100
   have H' := Aside0.mk H
   clear H
   go_wp2_with (first | (go_at_call 83; (with_reducible refine (ferruleref12_Has.calls k _ _ l1 a2 t106 _ ?side1 ?side2 A10.out).mono ?_); (case side1 => exact Kd.C_below HR1.out bB); (case side2 => exact HC1.out); rintro e w' ⟨rfl, ⟨nd, rfl⟩⟩))
   go_meet
   case rel => exact ⟨_, (t106), bS, H', ⟨by first | omega | exact Nat.le_refl _⟩, ⟨by (with_reducible repeat (first | refine blk_drewN ?_ _ | refine blk_drew ?_ | refine blk_alloc ?_ _)); refine blk_put (cs := #[.int .i64 t101, .int .i64 t102, .int .i64 0]) ?_ 2 _ rfl; (with_reducible repeat (first | refine blk_drewN ?_ _ | refine blk_drew ?_ | refine blk_alloc ?_ _)); refine blk_put (cs := #[.int .i64 t101, .int .i64 0, .int .i64 0]) ?_ 1 _ rfl; (with_reducible repeat (first | refine blk_drewN ?_ _ | refine blk_drew ?_ | refine blk_alloc ?_ _)); refine blk_put (cs := #[.int .i64 0, .int .i64 0, .int .i64 0]) ?_ 0 _ rfl; (with_reducible repeat (first | refine blk_drewN ?_ _ | refine blk_drew ?_ | refine blk_alloc ?_ _)); exact BK105.out⟩, ⟨bB⟩⟩
  ·replace c9 := Bool.eq_false_iff.mpr c9
   subst c9
   have H1 : (ferruleref15_Explain.j0 k l0 l1 a2 true t101 t102 t103) = some (r1, r2) := by rw [if_neg (show ¬ (false = true) by decide)] at H; exact H
   clear H
   have H := H1
   clear H1
   have H' := Aside0.mk H
   clear H
   go_wp2
   go_meet
   case rel => exact ⟨_, (true), bS, H', ⟨by first | omega | exact Nat.le_refl _⟩, ⟨by (with_reducible repeat (first | refine blk_drewN ?_ _ | refine blk_drew ?_ | refine blk_alloc ?_ _)); refine blk_put (cs := #[.int .i64 t101, .int .i64 t102, .int .i64 0]) ?_ 2 _ rfl; (with_reducible repeat (first | refine blk_drewN ?_ _ | refine blk_drew ?_ | refine blk_alloc ?_ _)); refine blk_put (cs := #[.int .i64 t101, .int .i64 0, .int .i64 0]) ?_ 1 _ rfl; (with_reducible repeat (first | refine blk_drewN ?_ _ | refine blk_drew ?_ | refine blk_alloc ?_ _)); refine blk_put (cs := #[.int .i64 0, .int .i64 0, .int .i64 0]) ?_ 0 _ rfl; (with_reducible repeat (first | refine blk_drewN ?_ _ | refine blk_drew ?_ | refine blk_alloc ?_ _)); exact BK105.out⟩, ⟨bB⟩⟩
 case rest =>
  clear HC5
  try clear c1
  try clear p2
  try clear c5
  try clear p6
  try clear c8
  try clear c9
  try clear hcz8_0
  try clear hcz8_1
  try clear hcz8_2
  try clear hfz8_0
  try clear hfz8_1
  try clear hfz8_2
  obtain ⟨kq, x23_4, rfl, HA, HJ4, BK105, HB⟩ := hcut
  cases kq with
  | zero => exact absurd HA.out (by simp [ferruleref15_Explain.j0])
  | succ kj4 =>
   have H := HA.out
   clear HA
   simp only [ferruleref15_Explain.j0] at H
   by_cases c11 : x23_4 = true
   ·subst c11
    have H1 : (some (([] : List Int), false)) = some (r1, r2) := by rw [if_pos rfl] at H; exact H
    clear H
    have H := H1
    clear H1
    simp only [Option.some.injEq, Prod.mk.injEq] at H
    obtain ⟨rfl, rfl⟩ := H
    go_wp2
    go_ret2
    exact ⟨_, by first | rfl | (simp [errW_none, errW_some] <;> rfl) | (simp [*, errW_none, errW_some] <;> rfl), by first | exact Kd.R_nil _ _ _ _ _ | exact Kd.N_nil _ _ _ _ _ | exact Kd.V_nil _ _ _ _ _ | exact Kd.Q_nil _ _ _ _ _ | exact Kd.S_nil _ _ _ _ _, bB⟩
   ·replace c11 := Bool.eq_false_iff.mpr c11
    subst c11
    have H1 : ((ferruleref15_Of.f kj4 l0 t102 l1).bind fun t107 => (if t107.length < 17592186044416 then ((some (t107 ++ [wrap64 (-a2)] : List Int)).bind fun y110 => ((ferruleref15_Allowed.f kj4 l0 t102 y110).bind fun t113 => (if (t113.length : Int) > 0 then (some (([] : List Int), false)) else ((ferruleref15_Explained.f kj4 l0 t102 y110 1).bind fun t116 => ((ferruleref15_Negated.f kj4 t116).bind fun t119 => (some (t119, true))))))) else (none))) = some (r1, r2) := by rw [if_neg (show ¬ (false = true) by decide)] at H; exact H
    clear H
    have H := H1
    clear H1
    replace H := Option.bind_eq_some_iff.mp H
    obtain ⟨t107, A120, H⟩ := H
    replace H : (if t107.length < 17592186044416 then ((some (t107 ++ [wrap64 (-a2)] : List Int)).bind fun y110 => ((ferruleref15_Allowed.f kj4 l0 t102 y110).bind fun t113 => (if (t113.length : Int) > 0 then (some (([] : List Int), false)) else ((ferruleref15_Explained.f kj4 l0 t102 y110 1).bind fun t116 => ((ferruleref15_Negated.f kj4 t116).bind fun t119 => (some (t119, true))))))) else (none)) = some (r1, r2) := H
    have A12 := Aside0.mk A120
    clear A120
    by_cases c13 : t107.length < 17592186044416
    ·rw [if_pos c13] at H
     have LMc13 := Aside0.mk c13
     clear c13
     obtain ⟨y110, hy110⟩ : ∃ y_ : List Int, y_ = (t107 ++ [wrap64 (-a2)]) := ⟨_, rfl⟩
     replace H : ((ferruleref15_Allowed.f kj4 l0 t102 y110).bind fun t113 => (if (t113.length : Int) > 0 then (some (([] : List Int), false)) else ((ferruleref15_Explained.f kj4 l0 t102 y110 1).bind fun t116 => ((ferruleref15_Negated.f kj4 t116).bind fun t119 => (some (t119, true)))))) = some (r1, r2) := by first | (rw [hy110]; with_reducible exact H) | (have H2_ := (Option.bind_some _ _).symm.trans H; rw [hy110]; with_reducible exact H2_) | (have H2_ := (Option.bind_some _ _).symm.trans H; with_reducible exact H2_) | with_reducible exact H | (rw [hy110]; exact H) | exact H
     have Ny110 := Aside0.mk hy110
     clear hy110
     replace H := Option.bind_eq_some_iff.mp H
     obtain ⟨t113, A140, H⟩ := H
     replace H : (if (t113.length : Int) > 0 then (some (([] : List Int), false)) else ((ferruleref15_Explained.f kj4 l0 t102 y110 1).bind fun t116 => ((ferruleref15_Negated.f kj4 t116).bind fun t119 => (some (t119, true))))) = some (r1, r2) := H
     have A14 := Aside0.mk A140
     clear A140
     by_cases c15 : (t113.length : Int) > 0
     ·rw [if_pos c15] at H
      have c15b0 : decide (0 < (t113.length : Int)) = true := decide_eq_true c15
      have c15b1 : decide (0 < t113.length) = true := decide_eq_true (by omega)
      clear c15
      simp only [Option.some.injEq, Prod.mk.injEq] at H
      obtain ⟨rfl, rfl⟩ := H
      have hcz16_0 : wc.cell? ⟨gb105, 0, none⟩ = some (.int .i64 t101) := (blk_cell BK105.out 0).trans rfl
      have hcz16_1 : wc.cell? ⟨gb105, 1, none⟩ = some (.int .i64 t102) := (blk_cell BK105.out 1).trans rfl
      have hcz16_2 : wc.cell? ⟨gb105, 2, none⟩ = some (.int .i64 t103) := (blk_cell BK105.out 2).trans rfl
      have hfz16_0 := blk_frozen BK105.out 0
      have hfz16_1 := blk_frozen BK105.out 1
      have hfz16_2 := blk_frozen BK105.out 2
      go_wp2_with (first | ((with_reducible refine gate_callee (f := 48) rfl ?_); refine goesL_ (some 28) rfl rfl Try.func48 (by kernel_rfl) rfl #[.slice A0 l0.length c0, .int .i64 t102, .slice A1 l1.length c1] rfl bM ?_; (with_reducible refine (ferruleref15_Of.calls kj4 _ _ l0 t102 _ _ l1 t107 _ ?side1 ?side2 ?side3 ?side4 A12.out).mono ?_); (case side1 => exact sW (Kd.C_below HR0.out HB.out)); (case side2 => exact HC0.out); (case side3 => exact sW (Kd.C_below HR1.out HB.out)); (case side4 => exact HC1.out); rintro e w17 ⟨v108, rfl, ho0, hb⟩; refine ⟨_, rfl, ?_⟩; have HO109 := aL ho0 HB; replace BK105 := aK BK105 hb; replace HB := aB HB hb; (try clear hb); (try clear hb2); (try clear hk); (try clear hi); (try clear ho0)) | ((with_reducible refine gate_builtin (b := .append) (xs := #[.tmp 28, .tmp 31]) rfl ?_); at_builtin; refine Kd.R_append (Kd.int .i64) (w0 := w) w.heap.size rfl (.tmp 28) (.tmp 31) 46 3 (.int .i64 0) 8 rfl Try.underlying46 info3 rfl (by decide) (by omega) v108 t107 (wrap64 (-a2)) [.int .i64 (wrap64 (-a2))] (fun _ => True) (fun _ => False) rfl rfl ?aP (fun _ hk => hk.elim) ?aF ?aO ?aB ?aS ?aL ?_; (case aP => exact rfl); (case aB => exact bB); (case aF => exact (fun _ _ => trivial)); (case aO => exact (aRw HO109)); (case aS => exact (below_size bB)); (case aL => have := LMc13.out; omega); intro v111 w18 ho hb hg hat; rw [← Ny110.out] at ho; replace BK105 := Aside0.mk (blk_grown (g := gb105) (o := .cells #[.int .i64 t101, .int .i64 t102, .int .i64 t103] 111 (0, 0)) (aKw BK105) hg (Kd.R_ne HO109.out BK105.out (by decide))); replace HB := Aside0.mk hb; have HO112 := Aside0.mk ho; clear HO109; clear ho hb hg hat; have hcz19_0 : w18.cell? ⟨gb105, 0, none⟩ = some (.int .i64 t101) := (blk_cell BK105.out 0).trans rfl; have hcz19_1 : w18.cell? ⟨gb105, 1, none⟩ = some (.int .i64 t102) := (blk_cell BK105.out 1).trans rfl; have hcz19_2 : w18.cell? ⟨gb105, 2, none⟩ = some (.int .i64 t103) := (blk_cell BK105.out 2).trans rfl; have hfz19_0 := blk_frozen BK105.out 0; have hfz19_1 := blk_frozen BK105.out 1; have hfz19_2 := blk_frozen BK105.out 2; obtain ⟨Ao20, co20, eo20⟩ := Kd.R_slice HO112.out; subst eo20) | ((with_reducible refine gate_callee (f := 47) rfl ?_); refine goesL_ (some 37) rfl rfl Try.func47 (by kernel_rfl) rfl #[.slice A0 l0.length c0, .int .i64 t102, .slice Ao20 y110.length co20] rfl bM ?_; (with_reducible refine (ferruleref15_Allowed.calls kj4 _ _ l0 t102 _ _ y110 t113 _ ?side1 ?side2 ?side3 ?side4 A14.out).mono ?_); (case side1 => exact sW (Kd.C_below HR0.out HB.out)); (case side2 => exact HC0.out); (case side3 => exact sW (Kd.R_reads' HO112.out).2.2); (case side4 => exact (Kd.R_reads' HO112.out).2.1); rintro e w21 ⟨v114, rfl, ho0, hb⟩; refine ⟨_, rfl, ?_⟩; have HO115 := aN ho0 HO112 HB; replace HO112 := aE HO112 ho0 hb; replace BK105 := aK BK105 hb; replace HB := aB HB hb; (try clear hb); (try clear hb2); (try clear hk); (try clear hi); (try clear ho0); obtain ⟨Ao22, co22, eo22⟩ := Kd.R_slice HO115.out; subst eo22))
      go_ret2
      exact ⟨_, by first | rfl | (simp [errW_none, errW_some] <;> rfl) | (simp [*, errW_none, errW_some] <;> rfl), by first | exact Kd.R_nil _ _ _ _ _ | exact Kd.N_nil _ _ _ _ _ | exact Kd.V_nil _ _ _ _ _ | exact Kd.Q_nil _ _ _ _ _ | exact Kd.S_nil _ _ _ _ _, bB⟩
     ·rw [if_neg c15] at H
      have c15b0 : decide (0 < (t113.length : Int)) = false := decide_eq_false c15
      have c15b1 : decide (0 < t113.length) = false := decide_eq_false (by omega)
      clear c15
      replace H := Option.bind_eq_some_iff.mp H
      obtain ⟨t116, A230, H⟩ := H
      replace H : ((ferruleref15_Negated.f kj4 t116).bind fun t119 => (some (t119, true))) = some (r1, r2) := H
      have A23 := Aside0.mk A230
      clear A230
      replace H := Option.bind_eq_some_iff.mp H
      obtain ⟨t119, A240, H⟩ := H
      replace H : (some (t119, true)) = some (r1, r2) := H
      have A24 := Aside0.mk A240
      clear A240
      simp only [Option.some.injEq, Prod.mk.injEq] at H
      obtain ⟨rfl, rfl⟩ := H
      have hcz25_0 : wc.cell? ⟨gb105, 0, none⟩ = some (.int .i64 t101) := (blk_cell BK105.out 0).trans rfl
      have hcz25_1 : wc.cell? ⟨gb105, 1, none⟩ = some (.int .i64 t102) := (blk_cell BK105.out 1).trans rfl
      have hcz25_2 : wc.cell? ⟨gb105, 2, none⟩ = some (.int .i64 t103) := (blk_cell BK105.out 2).trans rfl
      have hfz25_0 := blk_frozen BK105.out 0
      have hfz25_1 := blk_frozen BK105.out 1
      have hfz25_2 := blk_frozen BK105.out 2
      go_wp2_with (first | ((with_reducible refine gate_callee (f := 48) rfl ?_); refine goesL_ (some 28) rfl rfl Try.func48 (by kernel_rfl) rfl #[.slice A0 l0.length c0, .int .i64 t102, .slice A1 l1.length c1] rfl bM ?_; (with_reducible refine (ferruleref15_Of.calls kj4 _ _ l0 t102 _ _ l1 t107 _ ?side1 ?side2 ?side3 ?side4 A12.out).mono ?_); (case side1 => exact sW (Kd.C_below HR0.out HB.out)); (case side2 => exact HC0.out); (case side3 => exact sW (Kd.C_below HR1.out HB.out)); (case side4 => exact HC1.out); rintro e w26 ⟨v108, rfl, ho0, hb⟩; refine ⟨_, rfl, ?_⟩; have HO109 := aL ho0 HB; replace BK105 := aK BK105 hb; replace HB := aB HB hb; (try clear hb); (try clear hb2); (try clear hk); (try clear hi); (try clear ho0)) | ((with_reducible refine gate_builtin (b := .append) (xs := #[.tmp 28, .tmp 31]) rfl ?_); at_builtin; refine Kd.R_append (Kd.int .i64) (w0 := w) w.heap.size rfl (.tmp 28) (.tmp 31) 46 3 (.int .i64 0) 8 rfl Try.underlying46 info3 rfl (by decide) (by omega) v108 t107 (wrap64 (-a2)) [.int .i64 (wrap64 (-a2))] (fun _ => True) (fun _ => False) rfl rfl ?aP (fun _ hk => hk.elim) ?aF ?aO ?aB ?aS ?aL ?_; (case aP => exact rfl); (case aB => exact bB); (case aF => exact (fun _ _ => trivial)); (case aO => exact (aRw HO109)); (case aS => exact (below_size bB)); (case aL => have := LMc13.out; omega); intro v111 w27 ho hb hg hat; rw [← Ny110.out] at ho; replace BK105 := Aside0.mk (blk_grown (g := gb105) (o := .cells #[.int .i64 t101, .int .i64 t102, .int .i64 t103] 111 (0, 0)) (aKw BK105) hg (Kd.R_ne HO109.out BK105.out (by decide))); replace HB := Aside0.mk hb; have HO112 := Aside0.mk ho; clear HO109; clear ho hb hg hat; have hcz28_0 : w27.cell? ⟨gb105, 0, none⟩ = some (.int .i64 t101) := (blk_cell BK105.out 0).trans rfl; have hcz28_1 : w27.cell? ⟨gb105, 1, none⟩ = some (.int .i64 t102) := (blk_cell BK105.out 1).trans rfl; have hcz28_2 : w27.cell? ⟨gb105, 2, none⟩ = some (.int .i64 t103) := (blk_cell BK105.out 2).trans rfl; have hfz28_0 := blk_frozen BK105.out 0; have hfz28_1 := blk_frozen BK105.out 1; have hfz28_2 := blk_frozen BK105.out 2; obtain ⟨Ao29, co29, eo29⟩ := Kd.R_slice HO112.out; subst eo29) | ((with_reducible refine gate_callee (f := 47) rfl ?_); refine goesL_ (some 37) rfl rfl Try.func47 (by kernel_rfl) rfl #[.slice A0 l0.length c0, .int .i64 t102, .slice Ao29 y110.length co29] rfl bM ?_; (with_reducible refine (ferruleref15_Allowed.calls kj4 _ _ l0 t102 _ _ y110 t113 _ ?side1 ?side2 ?side3 ?side4 A14.out).mono ?_); (case side1 => exact sW (Kd.C_below HR0.out HB.out)); (case side2 => exact HC0.out); (case side3 => exact sW (Kd.R_reads' HO112.out).2.2); (case side4 => exact (Kd.R_reads' HO112.out).2.1); rintro e w30 ⟨v114, rfl, ho0, hb⟩; refine ⟨_, rfl, ?_⟩; have HO115 := aN ho0 HO112 HB; replace HO112 := aE HO112 ho0 hb; replace BK105 := aK BK105 hb; replace HB := aB HB hb; (try clear hb); (try clear hb2); (try clear hk); (try clear hi); (try clear ho0); obtain ⟨Ao31, co31, eo31⟩ := Kd.R_slice HO115.out; subst eo31; have hcz32_0 : w30.cell? ⟨gb105, 0, none⟩ = some (.int .i64 t101) := (blk_cell BK105.out 0).trans rfl; have hcz32_1 : w30.cell? ⟨gb105, 1, none⟩ = some (.int .i64 t102) := (blk_cell BK105.out 1).trans rfl; have hcz32_2 : w30.cell? ⟨gb105, 2, none⟩ = some (.int .i64 t103) := (blk_cell BK105.out 2).trans rfl; have hfz32_0 := blk_frozen BK105.out 0; have hfz32_1 := blk_frozen BK105.out 1; have hfz32_2 := blk_frozen BK105.out 2) | ((with_reducible refine gate_callee (f := 85) rfl ?_); refine goesL_ (some 44) rfl rfl Try.func85 (by kernel_rfl) rfl #[.slice A0 l0.length c0, .int .i64 t102, .slice Ao29 y110.length co29, .int .i64 1] rfl bM ?_; (with_reducible refine (ferruleref15_Explained.calls kj4 _ _ l0 t102 _ _ y110 1 t116 _ ?side1 ?side2 ?side3 ?side4 A23.out).mono ?_); (case side1 => exact sW (Kd.C_below HR0.out HB.out)); (case side2 => exact HC0.out); (case side3 => exact sW (Kd.R_reads' HO112.out).2.2); (case side4 => exact (Kd.R_reads' HO112.out).2.1); rintro e w33 ⟨v117, rfl, ho0, hb⟩; refine ⟨_, rfl, ?_⟩; have HO118 := Aside0.mk (Kd.R_lower (Kd.R_new' (Kd.R_new' ho0 (Kd.R_lt (aRw HO112))) (Kd.R_lt (aRw HO115))) (below_size bB)); replace HO112 := aE HO112 ho0 hb; replace HO115 := aE HO115 ho0 hb; replace BK105 := aK BK105 hb; replace HB := aB HB hb; (try clear hb); (try clear hb2); (try clear hk); (try clear hi); (try clear ho0); obtain ⟨Ao34, co34, eo34⟩ := Kd.R_slice HO118.out; subst eo34) | ((with_reducible refine gate_callee (f := 84) rfl ?_); refine goesL_ (some 45) rfl rfl Try.func84 (by kernel_rfl) rfl #[.slice Ao34 t116.length co34] rfl bM ?_; (with_reducible refine (ferruleref15_Negated.calls kj4 _ _ t116 t119 _ ?side1 ?side2 A24.out).mono ?_); (case side1 => exact sW (Kd.R_reads' HO118.out).2.2); (case side2 => exact (Kd.R_reads' HO118.out).2.1); rintro e w35 ⟨v120, rfl, ho0, hb⟩; refine ⟨_, rfl, ?_⟩; have HO121 := Aside0.mk (Kd.R_lower (Kd.R_new' (Kd.R_new' (Kd.R_new' ho0 (Kd.R_lt (aRw HO112))) (Kd.R_lt (aRw HO115))) (Kd.R_lt (aRw HO118))) (below_size bB)); replace HO112 := aE HO112 ho0 hb; replace HO115 := aE HO115 ho0 hb; replace HO118 := aE HO118 ho0 hb; replace BK105 := aK BK105 hb; replace HB := aB HB hb; (try clear hb); (try clear hb2); (try clear hk); (try clear hi); (try clear ho0)))
      go_ret2
      exact ⟨_, by first | rfl | (simp [errW_none, errW_some] <;> rfl) | (simp [*, errW_none, errW_some] <;> rfl), by (with_reducible repeat (first | apply Kd.R_alloc | apply Kd.R_drewN | apply Kd.R_drew)); exact Kd.R_mono HO121.out (fun _ hk => trivial), bB⟩
    ·rw [if_neg c13] at H
     exact absurd H (by simp)

end Go.Proofs.Ytcebjhbphcoboaa.X
