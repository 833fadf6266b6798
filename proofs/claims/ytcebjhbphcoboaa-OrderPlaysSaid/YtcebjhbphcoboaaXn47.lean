-- Written by a program of this session (wip/xp), out of the translation. Not trusted: Lean checks it.
import Derived.Test.YtcebjhbphcoboaaX0
import Derived.Test.YtcebjhbphcoboaaXn82
import Derived.Test.YtcebjhbphcoboaaXm
-- shrunk
namespace Go.Proofs.Ytcebjhbphcoboaa.X
open Go.RowKit Go.Proofs.YtcebjhbphcoboaaW.PrintWords Go.Proofs.YtcebjhbphcoboaaW.PrintLast Go.Proofs.YtcebjhbphcoboaaW.PrintMore
attribute [local go_sem] Lab.str_gtr Lab.str_leq Lab.str_geq max2_int min2_int max_two min_two max_three min_three max_four min_four   -- for this text's walks alone
set_option linter.unusedVariables false
set_option linter.unusedSimpArgs false

/-! ### ferruleref15_Allowed: function 47 -/
mutual
def ferruleref15_Allowed.l0 : Nat → List Int → Int → List Int → List Int → Int → Option (List Int)
 | 0, _, _, _, _, _ => none
 | k + 1, x0, x1, x2, x7, x8 => if 0 ≤ x1 then (if x1 < (x0.length : Int) then (if x8 < (rd x0 x1) then (ferruleref15_Allowed.l1 k x0 x1 x2 x7 x8 true 0) else (some x7)) else (none)) else (none)
def ferruleref15_Allowed.l1 : Nat → List Int → Int → List Int → List Int → Int → Bool → Int → Option (List Int)
 | 0, _, _, _, _, _, _, _ => none
 | k + 1, x0, x1, x2, x7, x8, x9, x10 => if x10 < (x2.length : Int) then (if 0 ≤ x10 then ((ferruleref15_Atom.f k x0 (rd x2 x10)).bind fun bt103 => (if x9 = true then ((ferruleref15_True.f bt103.1 bt103.2.1 bt103.2.2.1 (rd x2 x10) x8).bind fun t109 => (ferruleref15_Allowed.l1 k x0 x1 x2 x7 x8 t109 (wrap64 (x10 + 1)))) else (ferruleref15_Allowed.l1 k x0 x1 x2 x7 x8 false (wrap64 (x10 + 1))))) else (none)) else (if x9 = true then (if x7.length < 17592186044416 then (ferruleref15_Allowed.l0 k x0 x1 x2 (x7 ++ [x8]) (wrap64 (x8 + 1))) else (none)) else (ferruleref15_Allowed.l0 k x0 x1 x2 x7 (wrap64 (x8 + 1))))
end
def ferruleref15_Allowed.f (k : Nat) (l0 : List Int) (a1 : Int) (l2 : List Int) : Option (List Int) := ferruleref15_Allowed.l0 k l0 a1 l2 ([] : List Int) (-1)
theorem ferruleref15_Allowed.mono_l : ∀ k, (∀ y0 y1 y2 y3 y4, LeO (ferruleref15_Allowed.l0 k y0 y1 y2 y3 y4) (ferruleref15_Allowed.l0 (k + 1) y0 y1 y2 y3 y4)) ∧ (∀ y0 y1 y2 y3 y4 y5 y6, LeO (ferruleref15_Allowed.l1 k y0 y1 y2 y3 y4 y5 y6) (ferruleref15_Allowed.l1 (k + 1) y0 y1 y2 y3 y4 y5 y6))
 | 0 => ⟨fun _ _ _ _ _ r h => by simp [ferruleref15_Allowed.l0] at h, fun _ _ _ _ _ _ _ r h => by simp [ferruleref15_Allowed.l1] at h⟩
 | k + 1 => by
  obtain ⟨ih0, ih1⟩ := ferruleref15_Allowed.mono_l k
  refine ⟨?_, ?_⟩
  ·intro y0 y1 y2 y3 y4
   unfold ferruleref15_Allowed.l0
   repeat' first
   | (with_reducible exact ih0 _ _ _ _ _)
   | (with_reducible exact ih1 _ _ _ _ _ _ _)
   | (with_reducible exact ferruleref15_Atom.mono _ _ _)
   | (with_reducible exact LeO.refl _)
   | (with_reducible exact LeO.none _)
   | (with_reducible refine LeO.ite ?_ ?_)
   | (with_reducible refine LeO.bind ?_ (fun _ => ?_))
   | exact ih0 _ _ _ _ _
   | exact ih1 _ _ _ _ _ _ _
   | exact ferruleref15_Atom.mono _ _ _
   | exact LeO.none _
   | refine LeO.ite ?_ ?_
   | refine LeO.bind ?_ (fun _ => ?_)
  ·intro y0 y1 y2 y3 y4 y5 y6
   unfold ferruleref15_Allowed.l1
   repeat' first
   | (with_reducible exact ih0 _ _ _ _ _)
   | (with_reducible exact ih1 _ _ _ _ _ _ _)
   | (with_reducible exact ferruleref15_Atom.mono _ _ _)
   | (with_reducible exact LeO.refl _)
   | (with_reducible exact LeO.none _)
   | (with_reducible refine LeO.ite ?_ ?_)
   | (with_reducible refine LeO.bind ?_ (fun _ => ?_))
   | exact ih0 _ _ _ _ _
   | exact ih1 _ _ _ _ _ _ _
   | exact ferruleref15_Atom.mono _ _ _
   | exact LeO.none _
   | refine LeO.ite ?_ ?_
   | refine LeO.bind ?_ (fun _ => ?_)
theorem ferruleref15_Allowed.mono : ∀ a0 a1 a2 k, LeO (ferruleref15_Allowed.f k a0 a1 a2) (ferruleref15_Allowed.f (k + 1) a0 a1 a2) := by
 intro a0 a1 a2 k
 obtain ⟨ih0, ih1⟩ := ferruleref15_Allowed.mono_l k
 unfold ferruleref15_Allowed.f
 repeat' first
   | (with_reducible exact ih0 _ _ _ _ _)
   | (with_reducible exact ih1 _ _ _ _ _ _ _)
   | (with_reducible exact ferruleref15_Atom.mono _ _ _)
   | (with_reducible exact LeO.refl _)
   | (with_reducible exact LeO.none _)
   | (with_reducible refine LeO.ite ?_ ?_)
   | (with_reducible refine LeO.bind ?_ (fun _ => ?_))
   | exact ih0 _ _ _ _ _
   | exact ih1 _ _ _ _ _ _ _
   | exact ferruleref15_Atom.mono _ _ _
   | exact LeO.none _
   | refine LeO.ite ?_ ?_
   | refine LeO.bind ?_ (fun _ => ?_)
def ferruleref15_Allowed.T10 : Bool × List (List Nat × List Nat) := (true, [([], []), ([0], [0]), ([1], [1]), ([1], [1]), ([1], [1]), ([3, 4, 1], [1, 3, 4]), ([5, 1], [1, 5]), ([1], [1]), ([2, 6, 7, 1, 1], [1, 2, 6, 7]), ([1, 8], [1, 8]), ([9, 8, 0, 1, 2, 3, 4, 5, 6, 7, 8, 9], [0, 9])])
def ferruleref15_Allowed.B10 : List Nat := [0, 1, 3, 3, 3, 27, 59, 3, 255, 511, 1023]
theorem ferruleref15_Allowed.tab10 : rtab .any (opsOf Try.f47 10) = ferruleref15_Allowed.T10 := by kernel_rfl
theorem ferruleref15_Allowed.bits10 : waitsOk ferruleref15_Allowed.T10.2 ferruleref15_Allowed.B10 = true := by kernel_rfl
set_option maxHeartbeats 8000000 in
set_option maxRecDepth 100000 in
theorem ferruleref15_Allowed.calls (k : Nat) (A0 : Option Addr) (c0 : Nat) (l0 : List Int) (a1 : Int) (A2 : Option Addr) (c2 : Nat) (l2 : List Int) (r : List Int) (w : World) (hr0 : Kd.C (Kd.int .i64) w A0 l0.length l0) (hc0 : l0.length ≤ c0) (hr2 : Kd.C (Kd.int .i64) w A2 l2.length l2) (hc2 : l2.length ≤ c2) (h : ferruleref15_Allowed.f k l0 a1 l2 = some r) :
  Calls Try.prog 47 #[.slice A0 l0.length c0, .int .i64 a1, .slice A2 l2.length c2] w fun e w' => ∃ v0_ : Value, e = .returned (v0_) ∧ Kd.R (Kd.int .i64) 3 w' w.heap.size (fun _ => True) v0_ r ∧ Below w.heap.size w w' := by
 have hu111 := Try.underlying111
 have HR0 := Aside0.mk hr0
 have HC0 := Aside0.mk hc0
 clear hr0 hc0
 have HR2 := Aside0.mk hr2
 have HC2 := Aside0.mk hc2
 clear hr2 hc2
 have HB := Aside0.mk (Below.refl w.heap.size w)
 have H : (ferruleref15_Allowed.l0 k l0 a1 l2 ([] : List Int) (-1)) = some r := h
 clear h
 have H' := Aside0.mk H
 clear H
 go_enter Try.func47, Try.ntmps47
 go_wp2
 go_loopg [7, 8] k (fun kq v7 v8 w' => ∃ (x7_1 : List Int) (x8_1 : Int), v8 = .int .i64 x8_1 ∧ Aside0 (ferruleref15_Allowed.l0 kq l0 a1 l2 x7_1 x8_1 = some r) ∧ Aside0 (kq ≤ k) ∧ Aside0 (Kd.R (Kd.int .i64) 3 w' w.heap.size (fun _ => True) v7 x7_1) ∧ Aside0 (Below w.heap.size w w'))
 case atStart => exact ⟨(([] : List Int)), ((-1)), bS, H', ⟨Nat.le_refl _⟩, ⟨by first | exact Kd.R_nil _ _ _ _ _ | exact Kd.N_nil _ _ _ _ _ | exact Kd.V_nil _ _ _ _ _ | exact Kd.Q_nil _ _ _ _ _ | exact Kd.S_nil _ _ _ _ _⟩, ⟨bB⟩⟩
 case round =>
  clear H'
  try clear c2
  try clear p2
  obtain ⟨x7_1, x8_1, rfl, HA, HK1, HO_7, HB⟩ := hrel
  cases gk with
  | zero => exact absurd HA.out (by simp [ferruleref15_Allowed.l0])
  | succ k1 =>
   have H := HA.out
   clear HA
   simp only [ferruleref15_Allowed.l0] at H
   by_cases c4 : 0 ≤ a1
   ·rw [if_pos c4] at H
    have c4b0 : decide (0 ≤ a1) = true := decide_eq_true c4
    clear c4
    by_cases c5 : a1 < (l0.length : Int)
    ·rw [if_pos c5] at H
     have c5b0 : decide (a1 < (l0.length : Int)) = true := decide_eq_true c5
     clear c5
     by_cases c6 : x8_1 < (rd l0 a1)
     ·rw [if_pos c6] at H
      have c6b0 : decide (x8_1 < (rd l0 a1)) = true := decide_eq_true c6
      clear c6
      have H' := Aside0.mk H
      clear H
      have p101 : 0 ≤ (a1 : Int) := oD
      have q101 : a1 < (l0.length : Int) := oD
      obtain ⟨ad101, e101, hx101_0⟩ := Kd.at_int HR0.out a1 p101 q101
      cases e101
      replace hx101_0 := (HB.out.cell (World.block_lt_of_cell? w _ hx101_0)).trans hx101_0
      replace p101 := eq_true p101
      replace q101 := eq_true q101
      go_wp2
      go_loopg [9, 10] k1 (fun kq v9 v10 w' => ∃ (x9_2 : Bool) (x10_2 : Int), v9 = .bool x9_2 ∧ v10 = .int .i64 x10_2 ∧ Aside0 (ferruleref15_Allowed.l1 kq l0 a1 l2 x7_1 x8_1 x9_2 x10_2 = some r) ∧ Aside0 (kq ≤ k1) ∧ Aside0 (Kd.R (Kd.int .i64) 3 w' w.heap.size (fun _ => True) u7 x7_1) ∧ Aside0 (Below w.heap.size w w'))
      case atStart => exact ⟨(true), (0), bS, bS, H', ⟨Nat.le_refl _⟩, ⟨aRw HO_7⟩, ⟨bB⟩⟩
      case round =>
       clear H'
       try clear p1
       try clear q1
       try clear hx1
       try clear c2
       try clear p2
       try clear c4
       try clear c4b0
       try clear c5
       try clear c5b0
       try clear c6
       try clear c6b0
       try clear p6
       try clear hx101_0
       try clear p101
       try clear p2
       try clear q101
       obtain ⟨x9_2, x10_2, rfl, rfl, HA, HK2, HO_7, HB⟩ := hrel
       cases gk with
       | zero => exact absurd HA.out (by simp [ferruleref15_Allowed.l1])
       | succ k2 =>
        have H := HA.out
        clear HA
        simp only [ferruleref15_Allowed.l1] at H
        by_cases c7 : x10_2 < (l2.length : Int)
        ·rw [if_pos c7] at H
         have c7b0 : decide (x10_2 < (l2.length : Int)) = true := decide_eq_true c7
         clear c7
         by_cases c8 : 0 ≤ x10_2
         ·rw [if_pos c8] at H
          have c8b0 : decide (0 ≤ x10_2) = true := decide_eq_true c8
          clear c8
          replace H := Option.bind_eq_some_iff.mp H
          obtain ⟨⟨t103, t104, t105, t106⟩, A90, H⟩ := H
          replace H : (if x9_2 = true then ((ferruleref15_True.f t103 t104 t105 (rd l2 x10_2) x8_1).bind fun t109 => (ferruleref15_Allowed.l1 k2 l0 a1 l2 x7_1 x8_1 t109 (wrap64 (x10_2 + 1)))) else (ferruleref15_Allowed.l1 k2 l0 a1 l2 x7_1 x8_1 false (wrap64 (x10_2 + 1)))) = some r := H
          have A9 := Aside0.mk A90
          clear A90
          by_cases c10 : x9_2 = true
          ·subst c10
           have H1 : ((ferruleref15_True.f t103 t104 t105 (rd l2 x10_2) x8_1).bind fun t109 => (ferruleref15_Allowed.l1 k2 l0 a1 l2 x7_1 x8_1 t109 (wrap64 (x10_2 + 1)))) = some r := by rw [if_pos rfl] at H; exact H
           clear H
           have H := H1
           clear H1
           replace H := Option.bind_eq_some_iff.mp H
           obtain ⟨t109, A110, H⟩ := H
           replace H : (ferruleref15_Allowed.l1 k2 l0 a1 l2 x7_1 x8_1 t109 (wrap64 (x10_2 + 1))) = some r := H
           have A11 := Aside0.mk A110
           clear A110
           have H' := Aside0.mk H
           clear H
           have p102 : 0 ≤ (x10_2 : Int) := oD
           have q102 : x10_2 < (l2.length : Int) := oD
           obtain ⟨ad102, e102, hx102_0⟩ := Kd.at_int HR2.out x10_2 p102 q102
           cases e102
           replace hx102_0 := (HB.out.cell (World.block_lt_of_cell? w _ hx102_0)).trans hx102_0
           replace p102 := eq_true p102
           replace q102 := eq_true q102
           try go_wp2_with (first | ((with_reducible refine gate_callee (f := 82) rfl ?_); refine goesL_ (some 33) rfl rfl Try.func82 (by kernel_rfl) rfl #[.slice (some ad101) l0.length c0, .int .i64 (rd l2 x10_2)] rfl bM ?_; (with_reducible refine (ferruleref15_Atom.calls k2 _ _ l0 (rd l2 x10_2) t103 t104 t105 t106 _ ?side1 ?side2 A9.out).mono ?_); (case side1 => exact sW (Kd.C_below HR0.out HB.out)); (case side2 => exact HC0.out); rintro e w12 ⟨rfl, hb⟩; refine ⟨_, rfl, ?_⟩; replace HO_7 := aR HO_7 hb; replace HB := aB HB hb; (try clear hb); (try clear hb2); (try clear hk); (try clear hi)) | ((with_reducible refine gate_dst (N := 11) rfl ?_); refine box_event ?hg (N := 11) ?hd (cs := #[.int .i64 0, .int .i64 0, .int .i64 0]) (t := 111) ?hr ?_; (case hd => rfl); (case hg => rfl); (case hr => first | (go_simp; done) | (go_simp; rfl)); intro gb107 hg w13 hbox hb; replace HO_7 := aR HO_7 hb; have BK107 := Aside0.mk hbox; have GW107 := Aside0.mk ((by rw [hg]; exact (below_size bB) : w.heap.size ≤ gb107)); have GE107 := Aside0.mk ((by rw [hg]; exact (below_size bB) : w.heap.size ≤ gb107)); replace HB := aB HB hb; clear hb hbox hg; have hcz14_0 : w13.cell? ⟨gb107, 0, none⟩ = some (.int .i64 0) := (blk_cell BK107.out 0).trans rfl; have hcz14_1 : w13.cell? ⟨gb107, 1, none⟩ = some (.int .i64 0) := (blk_cell BK107.out 1).trans rfl; have hcz14_2 : w13.cell? ⟨gb107, 2, none⟩ = some (.int .i64 0) := (blk_cell BK107.out 2).trans rfl; have hfz14_0 := blk_frozen BK107.out 0; have hfz14_1 := blk_frozen BK107.out 1; have hfz14_2 := blk_frozen BK107.out 2))
           generalize hW_ : (((w13.setCell ⟨gb107, 0, none⟩ (.int .i64 t103)).setCell ⟨gb107, 1, none⟩ (.int .i64 t104)).setCell ⟨gb107, 2, none⟩ (.int .i64 t105)) = w15
           have n0_ : Aside0 (Kd.R (Kd.int .i64) 3 w15 w.heap.size (fun _ => True) u7 x7_1) := ⟨by subst hW_; (with_reducible repeat (first | apply Kd.R_alloc | apply Kd.R_drewN | apply Kd.R_drew)); exact Kd.R_mono (aG HO_7 BK107) (fun _ hk => trivial)⟩
           have n1_ : Aside0 (w15.heap[gb107]? = some (.cells #[.int .i64 t103, .int .i64 t104, .int .i64 t105] 111 (0, 0))) := ⟨by subst hW_; (with_reducible repeat (first | refine blk_drewN ?_ _ | refine blk_drew ?_ | refine blk_alloc ?_ _)); refine blk_put (cs := #[.int .i64 t103, .int .i64 t104, .int .i64 0]) ?_ 2 _ rfl; (with_reducible repeat (first | refine blk_drewN ?_ _ | refine blk_drew ?_ | refine blk_alloc ?_ _)); refine blk_put (cs := #[.int .i64 t103, .int .i64 0, .int .i64 0]) ?_ 1 _ rfl; (with_reducible repeat (first | refine blk_drewN ?_ _ | refine blk_drew ?_ | refine blk_alloc ?_ _)); refine blk_put (cs := #[.int .i64 0, .int .i64 0, .int .i64 0]) ?_ 0 _ rfl; (with_reducible repeat (first | refine blk_drewN ?_ _ | refine blk_drew ?_ | refine blk_alloc ?_ _)); exact BK107.out⟩
           have n2_ : Aside0 (Below w.heap.size w w15) := ⟨by subst hW_; exact bB⟩
           (try clear HO_7)
           (try clear BK107)
           (try clear HB)
           clear hW_
           have HO_7 := n0_
           have BK107 := n1_
           have HB := n2_
           clear n0_ n1_ n2_
           replace HO_7 := Aside0.mk (Kd.R_drew HO_7.out)
           replace BK107 := Aside0.mk (blk_drew BK107.out)
           replace HB := Aside0.mk (below_drew1 HB.out)
           have p108 : 0 ≤ (x10_2 : Int) := oD
           have q108 : x10_2 < (l2.length : Int) := oD
           obtain ⟨ad108, e108, hx108_0⟩ := Kd.at_int HR2.out x10_2 p108 q108
           have hw108_0 := hx108_0
           obtain rfl : ad102 = ad108 := (by injection e108)
           replace hx108_0 := (HB.out.cell (World.block_lt_of_cell? w _ hx108_0)).trans hx108_0
           replace p108 := eq_true p108
           replace q108 := eq_true q108
           refine start_ (n := 11) (S := fun w' => w'.cell? ⟨gb107, 0, none⟩ = some (.int .i64 t103) ∧ w'.cell? ⟨gb107, 1, none⟩ = some (.int .i64 t104) ∧ w'.cell? ⟨gb107, 2, none⟩ = some (.int .i64 t105) ∧ w'.cell? (ad102.add (x10_2).toNat) = some (.int .i64 (rd l2 x10_2))) (ds := []) #[false, false, false, false, false, false, false, false, false, false, false] (by kernel_rfl) rfl rfl ⟨(blk_cell BK107.out 0).trans rfl, (blk_cell BK107.out 1).trans rfl, (blk_cell BK107.out 2).trans rfl, ((HB.out.cell (World.block_lt_of_cell? w _ hw108_0)).trans hw108_0)⟩ (fun hHeld => ?_); refine with_tabW ferruleref15_Allowed.tab10 ferruleref15_Allowed.bits10 (fun HT_ HW_ => ?_)
           generalize w15.drew = w16 at HO_7 BK107 HB hx108_0 hHeld ⊢
           refine pV 0 36 rfl rfl ?_
           refine pV 1 37 rfl rfl ?_
           refine pV 3 39 rfl rfl ?_
           refine pV 4 40 rfl rfl ?_
           refine pV 5 41 rfl rfl ?_
           refine pV 7 43 rfl rfl ?_
           refine tV 2 38 rfl rfl ?_
           refine tV 6 42 rfl rfl ?_
           refine one_ (i := 8) (N := some 44) #[true, true, true, true, true, true, true, true, true, false, false] rfl rfl (one_of HT_.out (by kernel_rfl)) (by decide) (fun K hK => ?_)
           refine goes_ Try.func86 (by kernel_rfl) rfl #[.agg #[.int .i64 t103, .int .i64 t104, .int .i64 t105], .int .i64 (rd l2 x10_2), .int .i64 x8_1] (by rfl) rfl rfl bM ?_
           with_reducible refine (ferruleref15_True.calls t103 t104 t105 (rd l2 x10_2) x8_1 t109 _ A11.out).mono ?_
           rintro e w17 ⟨rfl, hb⟩
           refine ⟨_, rfl, ?_⟩
           replace HO_7 := aR HO_7 hb
           replace BK107 := aK BK107 hb
           replace HB := aB HB hb
           (try clear hb)
           (try clear hb2)
           (try clear hk)
           (try clear hi)
           refine hK.out _ _ ⟨(blk_cell BK107.out 0).trans rfl, (blk_cell BK107.out 1).trans rfl, (blk_cell BK107.out 2).trans rfl, ((HB.out.cell (World.block_lt_of_cell? w _ hw108_0)).trans hw108_0)⟩ (fun hHeld => ?_)
           clear hK K
           refine norm_ (a' := ?_) ?_ ?_
           rotate_left
           ·show Act.put _ (some 44) _ = _
            simp only [Act.put, List.setIfInBounds_toArray, List.set_cons_zero, List.set_cons_succ, i64_w, i32_w]
            rfl
           refine pV 9 45 rfl rfl ?_
           refine pV 10 9 rfl rfl ?_
           refine done_ (done_of HT_.out (by kernel_rfl)) ?_
           try go_wp2
           go_roundg k2
           case measure => have := HK1.out; have := HK2.out; omega
           case rel => exact ⟨(t109), (wrap64 (x10_2 + 1)), bS, bS, H', ⟨by have := HK1.out; have := HK2.out; omega⟩, ⟨aRw HO_7⟩, ⟨bB⟩⟩
          ·replace c10 := Bool.eq_false_iff.mpr c10
           subst c10
           have H1 : (ferruleref15_Allowed.l1 k2 l0 a1 l2 x7_1 x8_1 false (wrap64 (x10_2 + 1))) = some r := by rw [if_neg (show ¬ (false = true) by decide)] at H; exact H
           clear H
           have H := H1
           clear H1
           have H' := Aside0.mk H
           clear H
           have p102 : 0 ≤ (x10_2 : Int) := oD
           have q102 : x10_2 < (l2.length : Int) := oD
           obtain ⟨ad102, e102, hx102_0⟩ := Kd.at_int HR2.out x10_2 p102 q102
           cases e102
           replace hx102_0 := (HB.out.cell (World.block_lt_of_cell? w _ hx102_0)).trans hx102_0
           replace p102 := eq_true p102
           replace q102 := eq_true q102
           try go_wp2_with (first | ((with_reducible refine gate_callee (f := 82) rfl ?_); refine goesL_ (some 33) rfl rfl Try.func82 (by kernel_rfl) rfl #[.slice (some ad101) l0.length c0, .int .i64 (rd l2 x10_2)] rfl bM ?_; (with_reducible refine (ferruleref15_Atom.calls k2 _ _ l0 (rd l2 x10_2) t103 t104 t105 t106 _ ?side1 ?side2 A9.out).mono ?_); (case side1 => exact sW (Kd.C_below HR0.out HB.out)); (case side2 => exact HC0.out); rintro e w18 ⟨rfl, hb⟩; refine ⟨_, rfl, ?_⟩; replace HO_7 := aR HO_7 hb; replace HB := aB HB hb; (try clear hb); (try clear hb2); (try clear hk); (try clear hi)) | ((with_reducible refine gate_dst (N := 11) rfl ?_); refine box_event ?hg (N := 11) ?hd (cs := #[.int .i64 0, .int .i64 0, .int .i64 0]) (t := 111) ?hr ?_; (case hd => rfl); (case hg => rfl); (case hr => first | (go_simp; done) | (go_simp; rfl)); intro gb107 hg w19 hbox hb; replace HO_7 := aR HO_7 hb; have BK107 := Aside0.mk hbox; have GW107 := Aside0.mk ((by rw [hg]; exact (below_size bB) : w.heap.size ≤ gb107)); have GE107 := Aside0.mk ((by rw [hg]; exact (below_size bB) : w.heap.size ≤ gb107)); replace HB := aB HB hb; clear hb hbox hg; have hcz20_0 : w19.cell? ⟨gb107, 0, none⟩ = some (.int .i64 0) := (blk_cell BK107.out 0).trans rfl; have hcz20_1 : w19.cell? ⟨gb107, 1, none⟩ = some (.int .i64 0) := (blk_cell BK107.out 1).trans rfl; have hcz20_2 : w19.cell? ⟨gb107, 2, none⟩ = some (.int .i64 0) := (blk_cell BK107.out 2).trans rfl; have hfz20_0 := blk_frozen BK107.out 0; have hfz20_1 := blk_frozen BK107.out 1; have hfz20_2 := blk_frozen BK107.out 2))
           generalize hW_ : (((w19.setCell ⟨gb107, 0, none⟩ (.int .i64 t103)).setCell ⟨gb107, 1, none⟩ (.int .i64 t104)).setCell ⟨gb107, 2, none⟩ (.int .i64 t105)) = w21
           have n0_ : Aside0 (Kd.R (Kd.int .i64) 3 w21 w.heap.size (fun _ => True) u7 x7_1) := ⟨by subst hW_; (with_reducible repeat (first | apply Kd.R_alloc | apply Kd.R_drewN | apply Kd.R_drew)); exact Kd.R_mono (aG HO_7 BK107) (fun _ hk => trivial)⟩
           have n1_ : Aside0 (w21.heap[gb107]? = some (.cells #[.int .i64 t103, .int .i64 t104, .int .i64 t105] 111 (0, 0))) := ⟨by subst hW_; (with_reducible repeat (first | refine blk_drewN ?_ _ | refine blk_drew ?_ | refine blk_alloc ?_ _)); refine blk_put (cs := #[.int .i64 t103, .int .i64 t104, .int .i64 0]) ?_ 2 _ rfl; (with_reducible repeat (first | refine blk_drewN ?_ _ | refine blk_drew ?_ | refine blk_alloc ?_ _)); refine blk_put (cs := #[.int .i64 t103, .int .i64 0, .int .i64 0]) ?_ 1 _ rfl; (with_reducible repeat (first | refine blk_drewN ?_ _ | refine blk_drew ?_ | refine blk_alloc ?_ _)); refine blk_put (cs := #[.int .i64 0, .int .i64 0, .int .i64 0]) ?_ 0 _ rfl; (with_reducible repeat (first | refine blk_drewN ?_ _ | refine blk_drew ?_ | refine blk_alloc ?_ _)); exact BK107.out⟩
           have n2_ : Aside0 (Below w.heap.size w w21) := ⟨by subst hW_; exact bB⟩
           (try clear HO_7)
           (try clear BK107)
           (try clear HB)
           clear hW_
           have HO_7 := n0_
           have BK107 := n1_
           have HB := n2_
           clear n0_ n1_ n2_
           replace HO_7 := Aside0.mk (Kd.R_drew HO_7.out)
           replace BK107 := Aside0.mk (blk_drew BK107.out)
           replace HB := Aside0.mk (below_drew1 HB.out)
           refine start_ (n := 11) (S := fun w' => True) (ds := []) #[false, false, false, false, false, false, false, false, false, false, false] (by kernel_rfl) rfl rfl trivial (fun hHeld => ?_); refine with_tabW ferruleref15_Allowed.tab10 ferruleref15_Allowed.bits10 (fun HT_ HW_ => ?_)
           generalize w21.drew = w22 at HO_7 BK107 HB hHeld ⊢
           refine pV 0 36 rfl rfl ?_
           refine pV 1 37 rfl rfl ?_
           refine pU 2 38 rfl rfl ?_
           refine pU 3 39 rfl rfl ?_
           refine pU 4 40 rfl rfl ?_
           refine pU 5 41 rfl rfl ?_
           refine pU 6 42 rfl rfl ?_
           refine pU 7 43 rfl rfl ?_
           refine pU 8 44 rfl rfl ?_
           refine pV 9 45 rfl rfl ?_
           refine pV 10 9 rfl rfl ?_
           refine done_ (done_of HT_.out (by kernel_rfl)) ?_
           try go_wp2
           go_roundg k2
           case measure => have := HK1.out; have := HK2.out; omega
           case rel => exact ⟨(false), (wrap64 (x10_2 + 1)), bS, bS, H', ⟨by have := HK1.out; have := HK2.out; omega⟩, ⟨aRw HO_7⟩, ⟨bB⟩⟩
         ·rw [if_neg c8] at H
          exact absurd H (by simp)
        ·rw [if_neg c7] at H
         have c7b0 : decide (x10_2 < (l2.length : Int)) = false := decide_eq_false c7
         clear c7
         by_cases c23 : x9_2 = true
         ·subst c23
          have H1 : (if x7_1.length < 17592186044416 then (ferruleref15_Allowed.l0 k2 l0 a1 l2 (x7_1 ++ [x8_1]) (wrap64 (x8_1 + 1))) else (none)) = some r := by rw [if_pos rfl] at H; exact H
          clear H
          have H := H1
          clear H1
          by_cases c24 : x7_1.length < 17592186044416
          ·rw [if_pos c24] at H
           have LMc24 := Aside0.mk c24
           clear c24
           obtain ⟨y110, hy110⟩ : ∃ y_ : List Int, y_ = (x7_1 ++ [x8_1]) := ⟨_, rfl⟩
           replace H : (ferruleref15_Allowed.l0 k2 l0 a1 l2 y110 (wrap64 (x8_1 + 1))) = some r := by first | (rw [hy110]; with_reducible exact H) | (have H2_ := (Option.bind_some _ _).symm.trans H; rw [hy110]; with_reducible exact H2_) | (have H2_ := (Option.bind_some _ _).symm.trans H; with_reducible exact H2_) | with_reducible exact H | (rw [hy110]; exact H) | exact H
           have Ny110 := Aside0.mk hy110
           clear hy110
           have H' := Aside0.mk H
           clear H
           go_wp2_with (first | ((with_reducible refine gate_builtin (b := .append) (xs := #[.tmp 47, .tmp 49]) rfl ?_); at_builtin; refine Kd.R_append (Kd.int .i64) (w0 := w) w.heap.size rfl (.tmp 47) (.tmp 49) 46 3 (.int .i64 0) 8 rfl Try.underlying46 info3 rfl (by decide) (by omega) u7 x7_1 x8_1 [.int .i64 x8_1] (fun _ => True) (fun _ => False) rfl rfl ?aP (fun _ hk => hk.elim) ?aF ?aO ?aB ?aS ?aL ?_; (case aP => exact rfl); (case aB => exact bB); (case aF => exact (fun _ _ => trivial)); (case aO => exact (aRw HO_7)); (case aS => exact (below_size bB)); (case aL => have := LMc24.out; omega); intro v111 w25 ho hb hg hat; rw [← Ny110.out] at ho; replace HB := Aside0.mk hb; have HO112 := Aside0.mk ho; clear HO_7; clear ho hb hg hat))
           go_roundg k2
           case measure => have := HK1.out; have := HK2.out; omega
           case rel => exact ⟨(y110), (wrap64 (x8_1 + 1)), bS, H', ⟨by have := HK1.out; have := HK2.out; omega⟩, ⟨aRw HO112⟩, ⟨bB⟩⟩
          ·rw [if_neg c24] at H
           exact absurd H (by simp)
         ·replace c23 := Bool.eq_false_iff.mpr c23
          subst c23
          have H1 : (ferruleref15_Allowed.l0 k2 l0 a1 l2 x7_1 (wrap64 (x8_1 + 1))) = some r := by rw [if_neg (show ¬ (false = true) by decide)] at H; exact H
          clear H
          have H := H1
          clear H1
          have H' := Aside0.mk H
          clear H
          go_wp2
          go_roundg k2
          case measure => have := HK1.out; have := HK2.out; omega
          case rel => exact ⟨(x7_1), (wrap64 (x8_1 + 1)), bS, H', ⟨by have := HK1.out; have := HK2.out; omega⟩, ⟨aRw HO_7⟩, ⟨bB⟩⟩
     ·rw [if_neg c6] at H
      have c6b0 : decide (x8_1 < (rd l0 a1)) = false := decide_eq_false c6
      clear c6
      obtain rfl := Option.some.inj H
      have p101 : 0 ≤ (a1 : Int) := oD
      have q101 : a1 < (l0.length : Int) := oD
      obtain ⟨ad101, e101, hx101_0⟩ := Kd.at_int HR0.out a1 p101 q101
      cases e101
      replace hx101_0 := (HB.out.cell (World.block_lt_of_cell? w _ hx101_0)).trans hx101_0
      replace p101 := eq_true p101
      replace q101 := eq_true q101
      go_wp2
      go_ret
      exact ⟨_, by first | rfl | (simp [errW_none, errW_some] <;> rfl) | (simp [*, errW_none, errW_some] <;> rfl), aRw HO_7, bB⟩
    ·rw [if_neg c5] at H
     exact absurd H (by simp)
   ·rw [if_neg c4] at H
    exact absurd H (by simp)

end Go.Proofs.Ytcebjhbphcoboaa.X
