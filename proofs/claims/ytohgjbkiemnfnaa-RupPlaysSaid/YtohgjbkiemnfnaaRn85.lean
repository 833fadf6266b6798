-- Written by a program of this session (wip/xp), out of the translation. Not trusted: Lean checks it.
import Derived.Test.YtohgjbkiemnfnaaR0
import Derived.Test.YtohgjbkiemnfnaaRn97
-- shrunk
namespace Go.Proofs.Ytohgjbkiemnfnaa.R
open Go.RowKit Go.Proofs.YtohgjbkiemnfnaaW.PrintWords Go.Proofs.YtohgjbkiemnfnaaW.PrintLast Go.Proofs.YtohgjbkiemnfnaaW.PrintMore
attribute [local go_sem] Lab.str_gtr Lab.str_leq Lab.str_geq max2_int min2_int max_two min_two max_three min_three max_four min_four   -- for this text's walks alone
set_option linter.unusedVariables false
set_option linter.unusedSimpArgs false

/-! ### ferruleref17_Close: function 85 -/
mutual
def ferruleref17_Close.l0 : Nat → List (List Int) → List Int → Bool → Option (List Int × Bool)
 | 0, _, _, _ => none
 | k + 1, x0, x6, x7 => if x7 = true then (ferruleref17_Close.l1 k x0 x6 false 0) else (some (x6, true))
def ferruleref17_Close.l1 : Nat → List (List Int) → List Int → Bool → Int → Option (List Int × Bool)
 | 0, _, _, _, _ => none
 | k + 1, x0, x6, x7, x8 => if x8 < (x0.length : Int) then (if 0 ≤ x8 then ((ferruleref17_State.f k (rd_L1 x0 x8) x6).bind fun bt108 => (if bt108.1 = 0 then (some (([] : List Int), false)) else (if bt108.1 = 2 then (if x6.length < 17592186044416 then (ferruleref17_Close.l1 k x0 (x6 ++ [bt108.2]) true (wrap64 (x8 + 1))) else (none)) else (ferruleref17_Close.l1 k x0 x6 x7 (wrap64 (x8 + 1)))))) else (none)) else (ferruleref17_Close.l0 k x0 x6 x7)
end
def ferruleref17_Close.f (k : Nat) (l0 : List (List Int)) (l1 : List Int) : Option (List Int × Bool) := (some (([] : List Int) : List Int)).bind fun y101 => (if y101.length + l1.length < 17592186044416 then (ferruleref17_Close.l0 k l0 (y101 ++ l1) true) else (none))
theorem ferruleref17_Close.mono_l : ∀ k, (∀ y0 y1 y2, LeO (ferruleref17_Close.l0 k y0 y1 y2) (ferruleref17_Close.l0 (k + 1) y0 y1 y2)) ∧ (∀ y0 y1 y2 y3, LeO (ferruleref17_Close.l1 k y0 y1 y2 y3) (ferruleref17_Close.l1 (k + 1) y0 y1 y2 y3))
 | 0 => ⟨fun _ _ _ r h => by simp [ferruleref17_Close.l0] at h, fun _ _ _ _ r h => by simp [ferruleref17_Close.l1] at h⟩
 | k + 1 => by
  obtain ⟨ih0, ih1⟩ := ferruleref17_Close.mono_l k
  refine ⟨?_, ?_⟩
  ·intro y0 y1 y2
   unfold ferruleref17_Close.l0
   repeat' first
   | (with_reducible exact ih0 _ _ _)
   | (with_reducible exact ih1 _ _ _ _)
   | (with_reducible exact ferruleref17_State.mono _ _ _)
   | (with_reducible exact LeO.refl _)
   | (with_reducible exact LeO.none _)
   | (with_reducible refine LeO.ite ?_ ?_)
   | (with_reducible refine LeO.bind ?_ (fun _ => ?_))
   | exact ih0 _ _ _
   | exact ih1 _ _ _ _
   | exact ferruleref17_State.mono _ _ _
   | exact LeO.none _
   | refine LeO.ite ?_ ?_
   | refine LeO.bind ?_ (fun _ => ?_)
  ·intro y0 y1 y2 y3
   unfold ferruleref17_Close.l1
   repeat' first
   | (with_reducible exact ih0 _ _ _)
   | (with_reducible exact ih1 _ _ _ _)
   | (with_reducible exact ferruleref17_State.mono _ _ _)
   | (with_reducible exact LeO.refl _)
   | (with_reducible exact LeO.none _)
   | (with_reducible refine LeO.ite ?_ ?_)
   | (with_reducible refine LeO.bind ?_ (fun _ => ?_))
   | exact ih0 _ _ _
   | exact ih1 _ _ _ _
   | exact ferruleref17_State.mono _ _ _
   | exact LeO.none _
   | refine LeO.ite ?_ ?_
   | refine LeO.bind ?_ (fun _ => ?_)
theorem ferruleref17_Close.mono : ∀ a0 a1 k, LeO (ferruleref17_Close.f k a0 a1) (ferruleref17_Close.f (k + 1) a0 a1) := by
 intro a0 a1 k
 obtain ⟨ih0, ih1⟩ := ferruleref17_Close.mono_l k
 unfold ferruleref17_Close.f
 repeat' first
   | (with_reducible exact ih0 _ _ _)
   | (with_reducible exact ih1 _ _ _ _)
   | (with_reducible exact ferruleref17_State.mono _ _ _)
   | (with_reducible exact LeO.refl _)
   | (with_reducible exact LeO.none _)
   | (with_reducible refine LeO.ite ?_ ?_)
   | (with_reducible refine LeO.bind ?_ (fun _ => ?_))
   | exact ih0 _ _ _
   | exact ih1 _ _ _ _
   | exact ferruleref17_State.mono _ _ _
   | exact LeO.none _
   | refine LeO.ite ?_ ?_
   | refine LeO.bind ?_ (fun _ => ?_)
set_option maxHeartbeats 8000000 in
set_option maxRecDepth 100000 in
theorem ferruleref17_Close.calls (k : Nat) (A0 : Option Addr) (c0 : Nat) (l0 : List (List Int)) (A1 : Option Addr) (c1 : Nat) (l1 : List Int) (r1 : List Int) (r2 : Bool) (w : World) (hr0 : Kd.C (Kd.slice 3 (Kd.int .i64)) w A0 l0.length l0) (hc0 : l0.length ≤ c0) (hr1 : Kd.C (Kd.int .i64) w A1 l1.length l1) (hc1 : l1.length ≤ c1) (h : ferruleref17_Close.f k l0 l1 = some (r1, r2)) :
  Calls Try.prog 85 #[.slice A0 l0.length c0, .slice A1 l1.length c1] w fun e w' => ∃ v0_ : Value, e = .returned (.tuple #[v0_, .bool r2]) ∧ Kd.R (Kd.int .i64) 3 w' w.heap.size (fun _ => True) v0_ r1 ∧ Below w.heap.size w w' := by
 have HR0 := Aside0.mk hr0
 have HC0 := Aside0.mk hc0
 clear hr0 hc0
 have HR1 := Aside0.mk hr1
 have HC1 := Aside0.mk hc1
 clear hr1 hc1
 have HB := Aside0.mk (Below.refl w.heap.size w)
 have H : ((some (([] : List Int) : List Int)).bind fun y101 => (if y101.length + l1.length < 17592186044416 then (ferruleref17_Close.l0 k l0 (y101 ++ l1) true) else (none))) = some (r1, r2) := h
 clear h
 obtain ⟨y101, hy101⟩ : ∃ y_ : List Int, y_ = (([] : List Int)) := ⟨_, rfl⟩
 replace H : (if y101.length + l1.length < 17592186044416 then (ferruleref17_Close.l0 k l0 (y101 ++ l1) true) else (none)) = some (r1, r2) := by first | (rw [hy101]; with_reducible exact H) | (have H2_ := (Option.bind_some _ _).symm.trans H; rw [hy101]; with_reducible exact H2_) | (have H2_ := (Option.bind_some _ _).symm.trans H; with_reducible exact H2_) | with_reducible exact H | (rw [hy101]; exact H) | exact H
 have Ny101 := Aside0.mk hy101
 clear hy101
 by_cases c3 : y101.length + l1.length < 17592186044416
 ·rw [if_pos c3] at H
  have LMc3 := Aside0.mk c3
  clear c3
  obtain ⟨y104, hy104⟩ : ∃ y_ : List Int, y_ = (y101 ++ l1) := ⟨_, rfl⟩
  replace H : (ferruleref17_Close.l0 k l0 y104 true) = some (r1, r2) := by first | (rw [hy104]; with_reducible exact H) | (have H2_ := (Option.bind_some _ _).symm.trans H; rw [hy104]; with_reducible exact H2_) | (have H2_ := (Option.bind_some _ _).symm.trans H; with_reducible exact H2_) | with_reducible exact H | (rw [hy104]; exact H) | exact H
  have Ny104 := Aside0.mk hy104
  clear hy104
  have H' := Aside0.mk H
  clear H
  go_enter Try.func85, Try.ntmps85
  go_wp2_with (first | ((with_reducible refine gate_dst (N := 11) rfl ?_); refine Kd.R_lit (Kd.int .i64) _ 3 ?hg (N := 11) ?hd (xs := ([] : List Int)) (inner := []) (ok := fun _ => True) (okp := fun _ => True) ?hr ?hp (fun _ hk => hk) trivial (Below.refl _ _) (Nat.le_refl _) (by simp) ?_; (case hd => rfl); (case hg => rfl); (case hr => first | (go_simp; done) | (go_simp; rfl)); (case hp => exact (Reps.none _ _)); intro v102 w4 ho5 hb hg_ hnew_; clear hg_ hnew_; (first | rw [← Ny101.out] at ho5 | (simp only [Int.reduceToNat] at ho5; rw [← Ny101.out] at ho5)); have HO103 := aL ho5 HB; replace HB := aB HB hb; clear hb ho5) | ((with_reducible refine gate_builtin (b := .append) (xs := #[.tmp 11, .tmp 12]) rfl ?_); at_builtin; refine Kd.R_append_rows (Kd.int .i64) (w0 := w) w.heap.size rfl (.tmp 11) (.tmp 12) 22 3 (.int .i64 0) 8 rfl Try.underlying22 info3 rfl (by decide) (by omega) v102 y101 l1 _ _ _ (fun _ => True) (fun _ => False) rfl rfl ?aO ?aR (fun _ _ h => h) (fun _ h => h.elim) ?aF ?aB ?aS ?aL ?_; (case aR => exact sW (Kd.C_below HR1.out HB.out)); (case aB => exact bB); (case aF => exact (fun _ _ => trivial)); (case aO => exact (aRw HO103)); (case aS => exact (below_size bB)); (case aL => have := LMc3.out; omega); intro v105 w6 ho hb hg hat; rw [← Ny104.out] at ho; replace HB := Aside0.mk hb; have HO106 := Aside0.mk ho; clear HO103; clear ho hb hg hat))
  go_loopg [6, 7] k (fun kq v6 v7 w' => ∃ (x6_1 : List Int) (x7_1 : Bool), v7 = .bool x7_1 ∧ Aside0 (ferruleref17_Close.l0 kq l0 x6_1 x7_1 = some (r1, r2)) ∧ Aside0 (kq ≤ k) ∧ Aside0 (Kd.R (Kd.int .i64) 3 w' w.heap.size (fun _ => True) v6 x6_1) ∧ Aside0 (Below w.heap.size w w'))
  case atStart => exact ⟨(y104), (true), bS, H', ⟨Nat.le_refl _⟩, ⟨aRw HO106⟩, ⟨bB⟩⟩
  case round =>
   clear H'
   try clear c1
   try clear p2
   try clear c3
   try clear p6
   obtain ⟨x6_1, x7_1, rfl, HA, HK1, HO_6, HB⟩ := hrel
   cases gk with
   | zero => exact absurd HA.out (by simp [ferruleref17_Close.l0])
   | succ k1 =>
    have H := HA.out
    clear HA
    simp only [ferruleref17_Close.l0] at H
    by_cases c7 : x7_1 = true
    ·subst c7
     have H1 : (ferruleref17_Close.l1 k1 l0 x6_1 false 0) = some (r1, r2) := by rw [if_pos rfl] at H; exact H
     clear H
     have H := H1
     clear H1
     have H' := Aside0.mk H
     clear H
     go_wp2
     go_loopg [6, 7, 8] k1 (fun kq v6 v7 v8 w' => ∃ (x6_2 : List Int) (x7_2 : Bool) (x8_2 : Int), v7 = .bool x7_2 ∧ v8 = .int .i64 x8_2 ∧ Aside0 (ferruleref17_Close.l1 kq l0 x6_2 x7_2 x8_2 = some (r1, r2)) ∧ Aside0 (kq ≤ k1) ∧ Aside0 (Kd.R (Kd.int .i64) 3 w' w.heap.size (fun _ => True) v6 x6_2) ∧ Aside0 (Below w.heap.size w w'))
     case atStart => exact ⟨(x6_1), (false), (0), bS, bS, H', ⟨Nat.le_refl _⟩, ⟨aRw HO_6⟩, ⟨bB⟩⟩
     case round =>
      clear H'
      try clear c1
      try clear p2
      try clear c3
      try clear p6
      try clear c7
      try clear p2
      try clear p6
      obtain ⟨x6_2, x7_2, x8_2, rfl, rfl, HA, HK2, HO_6, HB⟩ := hrel
      cases gk with
      | zero => exact absurd HA.out (by simp [ferruleref17_Close.l1])
      | succ k2 =>
       have H := HA.out
       clear HA
       simp only [ferruleref17_Close.l1] at H
       by_cases c8 : x8_2 < (l0.length : Int)
       ·rw [if_pos c8] at H
        have c8b0 : decide (x8_2 < (l0.length : Int)) = true := decide_eq_true c8
        clear c8
        by_cases c9 : 0 ≤ x8_2
        ·rw [if_pos c9] at H
         have c9b0 : decide (0 ≤ x8_2) = true := decide_eq_true c9
         clear c9
         replace H := Option.bind_eq_some_iff.mp H
         obtain ⟨⟨t108, t109⟩, A100, H⟩ := H
         replace H : (if t108 = 0 then (some (([] : List Int), false)) else (if t108 = 2 then (if x6_2.length < 17592186044416 then (ferruleref17_Close.l1 k2 l0 (x6_2 ++ [t109]) true (wrap64 (x8_2 + 1))) else (none)) else (ferruleref17_Close.l1 k2 l0 x6_2 x7_2 (wrap64 (x8_2 + 1))))) = some (r1, r2) := H
         have A10 := Aside0.mk A100
         clear A100
         by_cases c11 : t108 = 0
         ·rw [if_pos c11] at H
          have c11b0 : (t108 == 0) = true := beq_iff_eq.mpr c11
          have c11b1 : (t108 != 0) = false := bne_eq_false_iff_eq.mpr c11
          clear c11
          simp only [Option.some.injEq, Prod.mk.injEq] at H
          obtain ⟨rfl, rfl⟩ := H
          have p107 : 0 ≤ (x8_2 : Int) := oD
          have q107 : x8_2 < (l0.length : Int) := oD
          obtain ⟨ad107, A107_0, c107_0, e107, hx107_0, hl107_0, hi107_0⟩ := at_L1 HR0.out x8_2 p107 q107
          cases e107
          replace hx107_0 := (HB.out.cell (World.block_lt_of_cell? w _ hx107_0)).trans hx107_0
          have HR107_0 := Aside0.mk hi107_0
          have HC107_0 := Aside0.mk hl107_0
          clear hi107_0 hl107_0
          replace p107 := eq_true p107
          replace q107 := eq_true q107
          obtain ⟨Ao12, co12, eo12⟩ := Kd.R_slice HO_6.out
          subst eo12
          go_wp2_with (first | ((with_reducible refine gate_callee (f := 97) rfl ?_); refine goesL_ (some 27) rfl rfl Try.func97 (by kernel_rfl) rfl #[.slice A107_0 (rd_L1 l0 x8_2).length c107_0, .slice Ao12 x6_2.length co12] rfl bM ?_; (with_reducible refine (ferruleref17_State.calls k2 _ _ (rd_L1 l0 x8_2) _ _ x6_2 t108 t109 _ ?side1 ?side2 ?side3 ?side4 A10.out).mono ?_); (case side1 => exact sW (Kd.C_below HR107_0.out HB.out)); (case side2 => exact HC107_0.out); (case side3 => exact sW (Kd.R_reads' HO_6.out).2.2); (case side4 => exact (Kd.R_reads' HO_6.out).2.1); rintro e w' ⟨rfl, ⟨nd, rfl⟩⟩; refine ⟨_, rfl, ?_⟩))
          go_ret2
          exact ⟨_, by first | rfl | (simp [errW_none, errW_some] <;> rfl) | (simp [*, errW_none, errW_some] <;> rfl), by first | exact Kd.R_nil _ _ _ _ _ | exact Kd.N_nil _ _ _ _ _ | exact Kd.V_nil _ _ _ _ _ | exact Kd.Q_nil _ _ _ _ _ | exact Kd.S_nil _ _ _ _ _, bB⟩
         ·rw [if_neg c11] at H
          have c11b0 : (t108 == 0) = false := beq_eq_false_iff_ne.mpr c11
          have c11b1 : (t108 != 0) = true := bne_iff_ne.mpr c11
          by_cases c13 : t108 = 2
          ·rw [if_pos c13] at H
           have c13b0 : (t108 == 2) = true := beq_iff_eq.mpr c13
           have c13b1 : (t108 != 2) = false := bne_eq_false_iff_eq.mpr c13
           clear c13
           by_cases c14 : x6_2.length < 17592186044416
           ·rw [if_pos c14] at H
            have LMc14 := Aside0.mk c14
            clear c14
            obtain ⟨y110, hy110⟩ : ∃ y_ : List Int, y_ = (x6_2 ++ [t109]) := ⟨_, rfl⟩
            replace H : (ferruleref17_Close.l1 k2 l0 y110 true (wrap64 (x8_2 + 1))) = some (r1, r2) := by first | (rw [hy110]; with_reducible exact H) | (have H2_ := (Option.bind_some _ _).symm.trans H; rw [hy110]; with_reducible exact H2_) | (have H2_ := (Option.bind_some _ _).symm.trans H; with_reducible exact H2_) | with_reducible exact H | (rw [hy110]; exact H) | exact H
            have Ny110 := Aside0.mk hy110
            clear hy110
            have H' := Aside0.mk H
            clear H
            have p107 : 0 ≤ (x8_2 : Int) := oD
            have q107 : x8_2 < (l0.length : Int) := oD
            obtain ⟨ad107, A107_0, c107_0, e107, hx107_0, hl107_0, hi107_0⟩ := at_L1 HR0.out x8_2 p107 q107
            cases e107
            replace hx107_0 := (HB.out.cell (World.block_lt_of_cell? w _ hx107_0)).trans hx107_0
            have HR107_0 := Aside0.mk hi107_0
            have HC107_0 := Aside0.mk hl107_0
            clear hi107_0 hl107_0
            replace p107 := eq_true p107
            replace q107 := eq_true q107
            obtain ⟨Ao15, co15, eo15⟩ := Kd.R_slice HO_6.out
            subst eo15
            go_wp2_with (first | ((with_reducible refine gate_callee (f := 97) rfl ?_); refine goesL_ (some 27) rfl rfl Try.func97 (by kernel_rfl) rfl #[.slice A107_0 (rd_L1 l0 x8_2).length c107_0, .slice Ao15 x6_2.length co15] rfl bM ?_; (with_reducible refine (ferruleref17_State.calls k2 _ _ (rd_L1 l0 x8_2) _ _ x6_2 t108 t109 _ ?side1 ?side2 ?side3 ?side4 A10.out).mono ?_); (case side1 => exact sW (Kd.C_below HR107_0.out HB.out)); (case side2 => exact HC107_0.out); (case side3 => exact sW (Kd.R_reads' HO_6.out).2.2); (case side4 => exact (Kd.R_reads' HO_6.out).2.1); rintro e w' ⟨rfl, ⟨nd, rfl⟩⟩; refine ⟨_, rfl, ?_⟩) | ((with_reducible refine gate_builtin (b := .append) (xs := #[.tmp 34, .tmp 36]) rfl ?_); at_builtin; refine Kd.R_append (Kd.int .i64) (w0 := w) w.heap.size rfl (.tmp 34) (.tmp 36) 22 3 (.int .i64 0) 8 rfl Try.underlying22 info3 rfl (by decide) (by omega) (.slice Ao15 x6_2.length co15) x6_2 t109 [.int .i64 t109] (fun _ => True) (fun _ => False) rfl rfl ?aP (fun _ hk => hk.elim) ?aF ?aO ?aB ?aS ?aL ?_; (case aP => exact rfl); (case aB => exact bB); (case aF => exact (fun _ _ => trivial)); (case aO => exact (aRw HO_6)); (case aS => exact (below_size bB)); (case aL => have := LMc14.out; omega); intro v111 w16 ho hb hg hat; rw [← Ny110.out] at ho; replace HB := Aside0.mk hb; have HO112 := Aside0.mk ho; clear HO_6; clear ho hb hg hat))
            go_roundg k2
            case measure => have := HK1.out; have := HK2.out; omega
            case rel => exact ⟨(y110), (true), (wrap64 (x8_2 + 1)), bS, bS, H', ⟨by have := HK1.out; have := HK2.out; omega⟩, ⟨aRw HO112⟩, ⟨bB⟩⟩
           ·rw [if_neg c14] at H
            exact absurd H (by simp)
          ·rw [if_neg c13] at H
           have c13b0 : (t108 == 2) = false := beq_eq_false_iff_ne.mpr c13
           have c13b1 : (t108 != 2) = true := bne_iff_ne.mpr c13
           have H' := Aside0.mk H
           clear H
           have p107 : 0 ≤ (x8_2 : Int) := oD
           have q107 : x8_2 < (l0.length : Int) := oD
           obtain ⟨ad107, A107_0, c107_0, e107, hx107_0, hl107_0, hi107_0⟩ := at_L1 HR0.out x8_2 p107 q107
           cases e107
           replace hx107_0 := (HB.out.cell (World.block_lt_of_cell? w _ hx107_0)).trans hx107_0
           have HR107_0 := Aside0.mk hi107_0
           have HC107_0 := Aside0.mk hl107_0
           clear hi107_0 hl107_0
           replace p107 := eq_true p107
           replace q107 := eq_true q107
           obtain ⟨Ao17, co17, eo17⟩ := Kd.R_slice HO_6.out
           subst eo17
           go_wp2_with (first | ((with_reducible refine gate_callee (f := 97) rfl ?_); refine goesL_ (some 27) rfl rfl Try.func97 (by kernel_rfl) rfl #[.slice A107_0 (rd_L1 l0 x8_2).length c107_0, .slice Ao17 x6_2.length co17] rfl bM ?_; (with_reducible refine (ferruleref17_State.calls k2 _ _ (rd_L1 l0 x8_2) _ _ x6_2 t108 t109 _ ?side1 ?side2 ?side3 ?side4 A10.out).mono ?_); (case side1 => exact sW (Kd.C_below HR107_0.out HB.out)); (case side2 => exact HC107_0.out); (case side3 => exact sW (Kd.R_reads' HO_6.out).2.2); (case side4 => exact (Kd.R_reads' HO_6.out).2.1); rintro e w' ⟨rfl, ⟨nd, rfl⟩⟩; refine ⟨_, rfl, ?_⟩))
           go_roundg k2
           case measure => have := HK1.out; have := HK2.out; omega
           case rel => exact ⟨(x6_2), (x7_2), (wrap64 (x8_2 + 1)), bS, bS, H', ⟨by have := HK1.out; have := HK2.out; omega⟩, ⟨aRw HO_6⟩, ⟨bB⟩⟩
        ·rw [if_neg c9] at H
         exact absurd H (by simp)
       ·rw [if_neg c8] at H
        have c8b0 : decide (x8_2 < (l0.length : Int)) = false := decide_eq_false c8
        clear c8
        have H' := Aside0.mk H
        clear H
        go_wp2
        go_roundg k2
        case measure => have := HK1.out; have := HK2.out; omega
        case rel => exact ⟨(x6_2), (x7_2), bS, H', ⟨by have := HK1.out; have := HK2.out; omega⟩, ⟨aRw HO_6⟩, ⟨bB⟩⟩
    ·replace c7 := Bool.eq_false_iff.mpr c7
     subst c7
     have H1 : (some (x6_1, true)) = some (r1, r2) := by rw [if_neg (show ¬ (false = true) by decide)] at H; exact H
     clear H
     have H := H1
     clear H1
     simp only [Option.some.injEq, Prod.mk.injEq] at H
     obtain ⟨rfl, rfl⟩ := H
     go_wp2
     go_ret2
     exact ⟨_, by first | rfl | (simp [errW_none, errW_some] <;> rfl) | (simp [*, errW_none, errW_some] <;> rfl), aRw HO_6, bB⟩
 ·rw [if_neg c3] at H
  exact absurd H (by simp)

end Go.Proofs.Ytohgjbkiemnfnaa.R
