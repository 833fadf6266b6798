-- Written by a program of this session (wip/xp), out of the translation. Not trusted: Lean checks it.
import Derived.Test.YtohgjbkiemnfnaaR0
import Derived.Test.YtohgjbkiemnfnaaRn65
-- shrunk
namespace Go.Proofs.Ytohgjbkiemnfnaa.R
open Go.RowKit Go.Proofs.YtohgjbkiemnfnaaW.PrintWords Go.Proofs.YtohgjbkiemnfnaaW.PrintLast Go.Proofs.YtohgjbkiemnfnaaW.PrintMore
attribute [local go_sem] Lab.str_gtr Lab.str_leq Lab.str_geq max2_int min2_int max_two min_two max_three min_three max_four min_four   -- for this text's walks alone
set_option linter.unusedVariables false
set_option linter.unusedSimpArgs false

/-! ### ferruleref12_Models: function 32 -/
mutual
def ferruleref12_Models.j0 : Nat → List (List Int) → Int → List Bool → Bool → Option ((List (List Bool)))
 | 0, _, _, _, _ => none
 | k + 1, x0, x1, x2, x13 => if x13 = true then (some ([] : List (List Bool))) else (if (x2.length : Int) = x1 then ((ferruleref12_All.f k x0 x2).bind fun t101 => (if t101 = true then ((some (([] : List Bool) : List Bool)).bind fun y102 => (if y102.length + x2.length < 140737488355328 then (some (([(y102 ++ x2)] : List (List Bool)))) else (none))) else (some ([] : List (List Bool))))) else ((some (([] : List Bool) : List Bool)).bind fun y111 => (if y111.length + x2.length < 140737488355328 then ((some (y111 ++ x2 : List Bool)).bind fun y114 => (if y114.length < 140737488355328 then ((ferruleref12_Models.f k x0 x1 (y114 ++ [false])).bind fun t120 => ((some (([] : List Bool) : List Bool)).bind fun y123 => (if y123.length + x2.length < 140737488355328 then ((some (y123 ++ x2 : List Bool)).bind fun y126 => (if y126.length < 140737488355328 then ((ferruleref12_Models.f k x0 x1 (y126 ++ [true])).bind fun t132 => (if t120.length + t132.length < 5864062014805 then (some (t120 ++ t132)) else (none))) else (none))) else (none)))) else (none))) else (none))))
def ferruleref12_Models.f : Nat → List (List Int) → Int → List Bool → Option ((List (List Bool)))
 | 0, _, _, _ => none
 | k + 1, l0, a1, l2 => if a1 < 0 then (ferruleref12_Models.j0 k l0 a1 l2 true) else (ferruleref12_Models.j0 k l0 a1 l2 (decide (a1 > 12)))
end
theorem ferruleref12_Models.mono_l : ∀ k, (∀ y0 y1 y2, LeO (ferruleref12_Models.f k y0 y1 y2) (ferruleref12_Models.f (k + 1) y0 y1 y2)) ∧ (∀ y0 y1 y2 y3, LeO (ferruleref12_Models.j0 k y0 y1 y2 y3) (ferruleref12_Models.j0 (k + 1) y0 y1 y2 y3))
 | 0 => ⟨fun _ _ _ r h => by simp [ferruleref12_Models.f] at h, fun _ _ _ _ r h => by simp [ferruleref12_Models.j0] at h⟩
 | k + 1 => by
  obtain ⟨ih0, ih1⟩ := ferruleref12_Models.mono_l k
  refine ⟨?_, ?_⟩
  ·intro y0 y1 y2
   unfold ferruleref12_Models.f
   repeat' first
   | (with_reducible exact ih0 _ _ _)
   | (with_reducible exact ih1 _ _ _ _)
   | (with_reducible exact ferruleref12_All.mono _ _ _)
   | (with_reducible exact LeO.refl _)
   | (with_reducible exact LeO.none _)
   | (with_reducible refine LeO.ite ?_ ?_)
   | (with_reducible refine LeO.bind ?_ (fun _ => ?_))
   | exact ih0 _ _ _
   | exact ih1 _ _ _ _
   | exact ferruleref12_All.mono _ _ _
   | exact LeO.none _
   | refine LeO.ite ?_ ?_
   | refine LeO.bind ?_ (fun _ => ?_)
  ·intro y0 y1 y2 y3
   unfold ferruleref12_Models.j0
   repeat' first
   | (with_reducible exact ih0 _ _ _)
   | (with_reducible exact ih1 _ _ _ _)
   | (with_reducible exact ferruleref12_All.mono _ _ _)
   | (with_reducible exact LeO.refl _)
   | (with_reducible exact LeO.none _)
   | (with_reducible refine LeO.ite ?_ ?_)
   | (with_reducible refine LeO.bind ?_ (fun _ => ?_))
   | exact ih0 _ _ _
   | exact ih1 _ _ _ _
   | exact ferruleref12_All.mono _ _ _
   | exact LeO.none _
   | refine LeO.ite ?_ ?_
   | refine LeO.bind ?_ (fun _ => ?_)
theorem ferruleref12_Models.mono : ∀ a0 a1 a2 k, LeO (ferruleref12_Models.f k a0 a1 a2) (ferruleref12_Models.f (k + 1) a0 a1 a2) := by
 intro a0 a1 a2 k
 obtain ⟨ih0, ih1⟩ := ferruleref12_Models.mono_l k
 exact ih0 a0 a1 a2
set_option maxHeartbeats 8000000 in
set_option maxRecDepth 100000 in
theorem ferruleref12_Models.calls (k : Nat) : ∀ (A0 : Option Addr) (c0 : Nat) (l0 : List (List Int)) (a1 : Int) (A2 : Option Addr) (c2 : Nat) (l2 : List Bool) (r : List (List Bool)) (w : World) (hr0 : Kd.C (Kd.slice 3 (Kd.int .i64)) w A0 l0.length l0) (hc0 : l0.length ≤ c0) (hr2 : Kd.C Kd.bool w A2 l2.length l2) (hc2 : l2.length ≤ c2) (h : ferruleref12_Models.f k l0 a1 l2 = some r),
  Calls Try.prog 32 #[.slice A0 l0.length c0, .int .i64 a1, .slice A2 l2.length c2] w fun e w' => ∃ v0_ : Value, e = .returned (v0_) ∧ Kd.N (Kd.slice 4 Kd.bool) 38 w' w.heap.size (fun k_ => (w.heap.size ≤ k_)) v0_ r ∧ Below w.heap.size w w' := by
 induction k using Nat.strongRecOn with
 | _ k ih =>
 intro A0 c0 l0 a1 A2 c2 l2 r w hr0 hc0 hr2 hc2 h
 cases k with
 | zero => exact absurd h (by simp [ferruleref12_Models.f])
 | succ k =>
 simp only [ferruleref12_Models.f] at h
 have HR0 := Aside0.mk hr0
 have HC0 := Aside0.mk hc0
 clear hr0 hc0
 have HR2 := Aside0.mk hr2
 have HC2 := Aside0.mk hc2
 clear hr2 hc2
 have HB := Aside0.mk (Below.refl w.heap.size w)
 have H : (if a1 < 0 then (ferruleref12_Models.j0 k l0 a1 l2 true) else (ferruleref12_Models.j0 k l0 a1 l2 (decide (a1 > 12)))) = some r := h
 clear h
 have HC4 := Aside0.mk H
 clear H
 go_enter Try.func32, Try.ntmps32
 go_upto_region 1 with (fail)
 go_cut [13] (fun v13 wc => ∃ (kq : Nat) (x13_3 : Bool), v13 = .bool x13_3 ∧ Aside0 (ferruleref12_Models.j0 kq l0 a1 l2 x13_3 = some r) ∧ Aside0 (kq ≤ k) ∧ Aside0 (Below w.heap.size w wc))
 case first =>
  have H := HC4.out
  clear HC4
  by_cases c5 : a1 < 0
  ·rw [if_pos c5] at H
   have c5b0 : decide (a1 < 0) = true := decide_eq_true c5
   clear c5
   (first | rw [c5b0] | (simp only [i64_w, i32_w]; rw [c5b0]) | skip)
   have H' := Aside0.mk H
   clear H
   go_wp2
   go_meet
   case rel => exact ⟨_, (true), bS, H', ⟨by first | omega | exact Nat.le_refl _⟩, ⟨bB⟩⟩
  ·rw [if_neg c5] at H
   have c5b0 : decide (a1 < 0) = false := decide_eq_false c5
   clear c5
   (first | rw [c5b0] | (simp only [i64_w, i32_w]; rw [c5b0]) | skip)
   have H' := Aside0.mk H
   clear H
   go_wp2
   go_meet
   case rel => exact ⟨_, (decide (a1 > 12)), bS, H', ⟨by first | omega | exact Nat.le_refl _⟩, ⟨bB⟩⟩
 case rest =>
  clear HC4
  try clear c2
  try clear p2
  try clear c3
  try clear c5
  try clear c5b0
  obtain ⟨kq, x13_3, rfl, HA, HJ3, HB⟩ := hcut
  cases kq with
  | zero => exact absurd HA.out (by simp [ferruleref12_Models.j0])
  | succ kj3 =>
   have H := HA.out
   clear HA
   simp only [ferruleref12_Models.j0] at H
   by_cases c6 : x13_3 = true
   ·subst c6
    have H1 : (some ([] : List (List Bool))) = some r := by rw [if_pos rfl] at H; exact H
    clear H
    have H := H1
    clear H1
    obtain rfl := Option.some.inj H
    go_wp2
    go_ret
    exact ⟨_, by first | rfl | (simp [errW_none, errW_some] <;> rfl) | (simp [*, errW_none, errW_some] <;> rfl), by first | exact Kd.S_nil _ _ _ _ _ | exact Kd.N_nil _ _ _ _ _ | exact Kd.V_nil _ _ _ _ _ | exact Kd.Q_nil _ _ _ _ _ | exact Kd.R_nil _ _ _ _ _, bB⟩
   ·replace c6 := Bool.eq_false_iff.mpr c6
    subst c6
    have H1 : (if (l2.length : Int) = a1 then ((ferruleref12_All.f kj3 l0 l2).bind fun t101 => (if t101 = true then ((some (([] : List Bool) : List Bool)).bind fun y102 => (if y102.length + l2.length < 140737488355328 then (some (([(y102 ++ l2)] : List (List Bool)))) else (none))) else (some ([] : List (List Bool))))) else ((some (([] : List Bool) : List Bool)).bind fun y111 => (if y111.length + l2.length < 140737488355328 then ((some (y111 ++ l2 : List Bool)).bind fun y114 => (if y114.length < 140737488355328 then ((ferruleref12_Models.f kj3 l0 a1 (y114 ++ [false])).bind fun t120 => ((some (([] : List Bool) : List Bool)).bind fun y123 => (if y123.length + l2.length < 140737488355328 then ((some (y123 ++ l2 : List Bool)).bind fun y126 => (if y126.length < 140737488355328 then ((ferruleref12_Models.f kj3 l0 a1 (y126 ++ [true])).bind fun t132 => (if t120.length + t132.length < 5864062014805 then (some (t120 ++ t132)) else (none))) else (none))) else (none)))) else (none))) else (none)))) = some r := by rw [if_neg (show ¬ (false = true) by decide)] at H; exact H
    clear H
    have H := H1
    clear H1
    by_cases c7 : (l2.length : Int) = a1
    ·rw [if_pos c7] at H
     have c7b0 : ((l2.length : Int) == a1) = true := beq_iff_eq.mpr c7
     have c7b1 : ((l2.length : Int) != a1) = false := bne_eq_false_iff_eq.mpr c7
     clear c7
     replace H := Option.bind_eq_some_iff.mp H
     obtain ⟨t101, A80, H⟩ := H
     replace H : (if t101 = true then ((some (([] : List Bool) : List Bool)).bind fun y102 => (if y102.length + l2.length < 140737488355328 then (some (([(y102 ++ l2)] : List (List Bool)))) else (none))) else (some ([] : List (List Bool)))) = some r := H
     have A8 := Aside0.mk A80
     clear A80
     by_cases c9 : t101 = true
     ·subst c9
      have H1 : ((some (([] : List Bool) : List Bool)).bind fun y102 => (if y102.length + l2.length < 140737488355328 then (some (([(y102 ++ l2)] : List (List Bool)))) else (none))) = some r := by rw [if_pos rfl] at H; exact H
      clear H
      have H := H1
      clear H1
      obtain ⟨y102, hy102⟩ : ∃ y_ : List Bool, y_ = (([] : List Bool)) := ⟨_, rfl⟩
      replace H : (if y102.length + l2.length < 140737488355328 then (some (([(y102 ++ l2)] : List (List Bool)))) else (none)) = some r := by first | (rw [hy102]; with_reducible exact H) | (have H2_ := (Option.bind_some _ _).symm.trans H; rw [hy102]; with_reducible exact H2_) | (have H2_ := (Option.bind_some _ _).symm.trans H; with_reducible exact H2_) | with_reducible exact H | (rw [hy102]; exact H) | exact H
      have Ny102 := Aside0.mk hy102
      clear hy102
      by_cases c10 : y102.length + l2.length < 140737488355328
      ·rw [if_pos c10] at H
       have LMc10 := Aside0.mk c10
       clear c10
       obtain ⟨y105, hy105⟩ : ∃ y_ : List Bool, y_ = (y102 ++ l2) := ⟨_, rfl⟩
       replace H : (some (([y105] : List (List Bool)))) = some r := by first | (rw [hy105]; with_reducible exact H) | (have H2_ := (Option.bind_some _ _).symm.trans H; rw [hy105]; with_reducible exact H2_) | (have H2_ := (Option.bind_some _ _).symm.trans H; with_reducible exact H2_) | with_reducible exact H | (rw [hy105]; exact H) | exact H
       have Ny105 := Aside0.mk hy105
       clear hy105
       obtain ⟨y108, hy108⟩ : ∃ y_ : List (List Bool), y_ = (([y105] : List (List Bool))) := ⟨_, rfl⟩
       replace H : (some y108) = some r := by first | (rw [hy108]; with_reducible exact H) | (have H2_ := (Option.bind_some _ _).symm.trans H; rw [hy108]; with_reducible exact H2_) | (have H2_ := (Option.bind_some _ _).symm.trans H; with_reducible exact H2_) | with_reducible exact H | (rw [hy108]; exact H) | exact H
       have Ny108 := Aside0.mk hy108
       clear hy108
       obtain rfl := Option.some.inj H
       go_wp2_with (first | ((with_reducible refine gate_callee (f := 65) rfl ?_); refine goesL_ (some 20) rfl rfl Try.func65 (by kernel_rfl) rfl #[.slice A0 l0.length c0, .slice A2 l2.length c2] rfl bM ?_; (with_reducible refine (ferruleref12_All.calls kj3 _ _ l0 _ _ l2 true _ ?side1 ?side2 ?side3 ?side4 A8.out).mono ?_); (case side1 => exact sW (Kd.C_below HR0.out HB.out)); (case side2 => exact HC0.out); (case side3 => exact sW (Kd.C_below HR2.out HB.out)); (case side4 => exact HC2.out); rintro e w' ⟨rfl, ⟨nd, rfl⟩⟩; refine ⟨_, rfl, ?_⟩) | ((with_reducible refine gate_dst (N := 21) rfl ?_); refine Kd.R_lit Kd.bool _ 4 ?hg (N := 21) ?hd (xs := ([] : List Bool)) (inner := []) (ok := fun _ => True) (okp := fun _ => True) ?hr ?hp (fun _ hk => hk) trivial (Below.refl _ _) (Nat.le_refl _) (by simp) ?_; (case hd => rfl); (case hg => rfl); (case hr => first | (go_simp; done) | (go_simp; rfl)); (case hp => exact (Reps.none _ _)); intro v103 w11 ho12 hb hg_ hnew_; clear hg_ hnew_; (first | rw [← Ny102.out] at ho12 | (simp only [Int.reduceToNat] at ho12; rw [← Ny102.out] at ho12)); have HO104 := Aside0.mk (Kd.R_lower (Kd.R_newM (M := fun k_ => (w.heap.size ≤ k_)) ho12 (below_size bB) (fun k_ h_ => h_)) (below_size bB)); replace HB := aB HB hb; clear hb ho12) | ((with_reducible refine gate_builtin (b := .append) (xs := #[.tmp 21, .tmp 22]) rfl ?_); at_builtin; refine Kd.R_append_rows Kd.bool (w0 := w) w.heap.size rfl (.tmp 21) (.tmp 22) 38 4 (.bool false) 1 rfl Try.underlying38 info4 rfl (by decide) (by omega) v103 y102 l2 _ _ _ (fun k_ => (w.heap.size ≤ k_)) (fun _ => False) rfl rfl ?aO ?aR (fun _ _ h => h) (fun _ h => h.elim) ?aF ?aB ?aS ?aL ?_; (case aR => exact sW (Kd.C_below HR2.out HB.out)); (case aB => exact bB); (case aF => exact (fun k_ hk => (Nat.le_trans (below_size bB) hk))); (case aO => exact (by (with_reducible repeat (first | apply Kd.R_alloc | apply Kd.R_drewN | apply Kd.R_drew)); exact Kd.R_mono HO104.out (fun _ hk => hk.1))); (case aS => exact (below_size bB)); (case aL => have := LMc10.out; omega); intro v106 w13 ho hb hg hat; rw [← Ny105.out] at ho; replace HB := Aside0.mk hb; have HO107 := Aside0.mk ho; clear HO104; clear ho hb hg hat; obtain ⟨Ao14, co14, eo14⟩ := Kd.R_slice HO107.out; subst eo14) | ((with_reducible refine gate_dst (N := 24) rfl ?_); refine Kd.N_lit (Kd.slice 4 Kd.bool) _ 38 ?hg (N' := 24) ?hd (xs := ([y105] : List (List Bool))) (inner := [.slice Ao14 y105.length co14]) (ok := (fun k_ => (w.heap.size ≤ k_))) (okp := (fun k_ => (w.heap.size ≤ k_))) ?hr ?hp (fun _ hk => hk) ((show ∀ k_, w13.heap.size ≤ k_ → (fun k_ => (w.heap.size ≤ k_)) k_ from fun k_ hk => (Nat.le_trans (below_size bB) hk)) _ (Nat.le_refl _)) (Below.refl _ _) (Nat.le_refl _) (by simp) ?_; (case hd => rfl); (case hg => rfl); (case hr => first | (go_simp; done) | (go_simp; rfl)); (case hp => exact (Reps.one (show Kd.FK (Kd.slice 4 Kd.bool) _ _ y105 [.slice Ao14 y105.length co14] from (Kd.FK_slice_mk (Kd.R_reads' (Kd.R_mono (ok' := (fun k_ => (w.heap.size ≤ k_))) (HO107.out) (fun k_ hk => hk))).2.1 (Kd.R_F (Kd.R_mono (ok' := (fun k_ => (w.heap.size ≤ k_))) (HO107.out) (fun k_ hk => hk))))) (Reps.none _ _))); intro v109 w15 ho16 hb hg_ hnew_; clear hg_ hnew_; (first | rw [← Ny108.out] at ho16 | (simp only [Int.reduceToNat] at ho16; rw [← Ny108.out] at ho16)); have HO110 := Aside0.mk (Kd.N_lower ho16 (below_size bB)); replace HB := aB HB hb; clear HO107; clear hb ho16))
       go_ret
       exact ⟨_, by first | rfl | (simp [errW_none, errW_some] <;> rfl) | (simp [*, errW_none, errW_some] <;> rfl), by (with_reducible repeat (first | apply Kd.N_alloc | apply Kd.N_drewN | apply Kd.N_drew)); exact HO110.out, bB⟩
      ·rw [if_neg c10] at H
       exact absurd H (by simp)
     ·replace c9 := Bool.eq_false_iff.mpr c9
      subst c9
      have H1 : (some ([] : List (List Bool))) = some r := by rw [if_neg (show ¬ (false = true) by decide)] at H; exact H
      clear H
      have H := H1
      clear H1
      obtain rfl := Option.some.inj H
      go_wp2_with (first | ((with_reducible refine gate_callee (f := 65) rfl ?_); refine goesL_ (some 20) rfl rfl Try.func65 (by kernel_rfl) rfl #[.slice A0 l0.length c0, .slice A2 l2.length c2] rfl bM ?_; (with_reducible refine (ferruleref12_All.calls kj3 _ _ l0 _ _ l2 false _ ?side1 ?side2 ?side3 ?side4 A8.out).mono ?_); (case side1 => exact sW (Kd.C_below HR0.out HB.out)); (case side2 => exact HC0.out); (case side3 => exact sW (Kd.C_below HR2.out HB.out)); (case side4 => exact HC2.out); rintro e w' ⟨rfl, ⟨nd, rfl⟩⟩; refine ⟨_, rfl, ?_⟩))
      go_ret
      exact ⟨_, by first | rfl | (simp [errW_none, errW_some] <;> rfl) | (simp [*, errW_none, errW_some] <;> rfl), by first | exact Kd.S_nil _ _ _ _ _ | exact Kd.N_nil _ _ _ _ _ | exact Kd.V_nil _ _ _ _ _ | exact Kd.Q_nil _ _ _ _ _ | exact Kd.R_nil _ _ _ _ _, bB⟩
    ·rw [if_neg c7] at H
     have c7b0 : ((l2.length : Int) == a1) = false := beq_eq_false_iff_ne.mpr c7
     have c7b1 : ((l2.length : Int) != a1) = true := bne_iff_ne.mpr c7
     obtain ⟨y111, hy111⟩ : ∃ y_ : List Bool, y_ = (([] : List Bool)) := ⟨_, rfl⟩
     replace H : (if y111.length + l2.length < 140737488355328 then ((some (y111 ++ l2 : List Bool)).bind fun y114 => (if y114.length < 140737488355328 then ((ferruleref12_Models.f kj3 l0 a1 (y114 ++ [false])).bind fun t120 => ((some (([] : List Bool) : List Bool)).bind fun y123 => (if y123.length + l2.length < 140737488355328 then ((some (y123 ++ l2 : List Bool)).bind fun y126 => (if y126.length < 140737488355328 then ((ferruleref12_Models.f kj3 l0 a1 (y126 ++ [true])).bind fun t132 => (if t120.length + t132.length < 5864062014805 then (some (t120 ++ t132)) else (none))) else (none))) else (none)))) else (none))) else (none)) = some r := by first | (rw [hy111]; with_reducible exact H) | (have H2_ := (Option.bind_some _ _).symm.trans H; rw [hy111]; with_reducible exact H2_) | (have H2_ := (Option.bind_some _ _).symm.trans H; with_reducible exact H2_) | with_reducible exact H | (rw [hy111]; exact H) | exact H
     have Ny111 := Aside0.mk hy111
     clear hy111
     by_cases c17 : y111.length + l2.length < 140737488355328
     ·rw [if_pos c17] at H
      have LMc17 := Aside0.mk c17
      clear c17
      obtain ⟨y114, hy114⟩ : ∃ y_ : List Bool, y_ = (y111 ++ l2) := ⟨_, rfl⟩
      replace H : (if y114.length < 140737488355328 then ((ferruleref12_Models.f kj3 l0 a1 (y114 ++ [false])).bind fun t120 => ((some (([] : List Bool) : List Bool)).bind fun y123 => (if y123.length + l2.length < 140737488355328 then ((some (y123 ++ l2 : List Bool)).bind fun y126 => (if y126.length < 140737488355328 then ((ferruleref12_Models.f kj3 l0 a1 (y126 ++ [true])).bind fun t132 => (if t120.length + t132.length < 5864062014805 then (some (t120 ++ t132)) else (none))) else (none))) else (none)))) else (none)) = some r := by first | (rw [hy114]; with_reducible exact H) | (have H2_ := (Option.bind_some _ _).symm.trans H; rw [hy114]; with_reducible exact H2_) | (have H2_ := (Option.bind_some _ _).symm.trans H; with_reducible exact H2_) | with_reducible exact H | (rw [hy114]; exact H) | exact H
      have Ny114 := Aside0.mk hy114
      clear hy114
      by_cases c18 : y114.length < 140737488355328
      ·rw [if_pos c18] at H
       have LMc18 := Aside0.mk c18
       clear c18
       obtain ⟨y117, hy117⟩ : ∃ y_ : List Bool, y_ = (y114 ++ [false]) := ⟨_, rfl⟩
       replace H : ((ferruleref12_Models.f kj3 l0 a1 y117).bind fun t120 => ((some (([] : List Bool) : List Bool)).bind fun y123 => (if y123.length + l2.length < 140737488355328 then ((some (y123 ++ l2 : List Bool)).bind fun y126 => (if y126.length < 140737488355328 then ((ferruleref12_Models.f kj3 l0 a1 (y126 ++ [true])).bind fun t132 => (if t120.length + t132.length < 5864062014805 then (some (t120 ++ t132)) else (none))) else (none))) else (none)))) = some r := by first | (rw [hy117]; with_reducible exact H) | (have H2_ := (Option.bind_some _ _).symm.trans H; rw [hy117]; with_reducible exact H2_) | (have H2_ := (Option.bind_some _ _).symm.trans H; with_reducible exact H2_) | with_reducible exact H | (rw [hy117]; exact H) | exact H
       have Ny117 := Aside0.mk hy117
       clear hy117
       replace H := Option.bind_eq_some_iff.mp H
       obtain ⟨t120, A190, H⟩ := H
       replace H : ((some (([] : List Bool) : List Bool)).bind fun y123 => (if y123.length + l2.length < 140737488355328 then ((some (y123 ++ l2 : List Bool)).bind fun y126 => (if y126.length < 140737488355328 then ((ferruleref12_Models.f kj3 l0 a1 (y126 ++ [true])).bind fun t132 => (if t120.length + t132.length < 5864062014805 then (some (t120 ++ t132)) else (none))) else (none))) else (none))) = some r := H
       have A19 := Aside0.mk A190
       clear A190
       obtain ⟨y123, hy123⟩ : ∃ y_ : List Bool, y_ = (([] : List Bool)) := ⟨_, rfl⟩
       replace H : (if y123.length + l2.length < 140737488355328 then ((some (y123 ++ l2 : List Bool)).bind fun y126 => (if y126.length < 140737488355328 then ((ferruleref12_Models.f kj3 l0 a1 (y126 ++ [true])).bind fun t132 => (if t120.length + t132.length < 5864062014805 then (some (t120 ++ t132)) else (none))) else (none))) else (none)) = some r := by first | (rw [hy123]; with_reducible exact H) | (have H2_ := (Option.bind_some _ _).symm.trans H; rw [hy123]; with_reducible exact H2_) | (have H2_ := (Option.bind_some _ _).symm.trans H; with_reducible exact H2_) | with_reducible exact H | (rw [hy123]; exact H) | exact H
       have Ny123 := Aside0.mk hy123
       clear hy123
       by_cases c20 : y123.length + l2.length < 140737488355328
       ·rw [if_pos c20] at H
        have LMc20 := Aside0.mk c20
        clear c20
        obtain ⟨y126, hy126⟩ : ∃ y_ : List Bool, y_ = (y123 ++ l2) := ⟨_, rfl⟩
        replace H : (if y126.length < 140737488355328 then ((ferruleref12_Models.f kj3 l0 a1 (y126 ++ [true])).bind fun t132 => (if t120.length + t132.length < 5864062014805 then (some (t120 ++ t132)) else (none))) else (none)) = some r := by first | (rw [hy126]; with_reducible exact H) | (have H2_ := (Option.bind_some _ _).symm.trans H; rw [hy126]; with_reducible exact H2_) | (have H2_ := (Option.bind_some _ _).symm.trans H; with_reducible exact H2_) | with_reducible exact H | (rw [hy126]; exact H) | exact H
        have Ny126 := Aside0.mk hy126
        clear hy126
        by_cases c21 : y126.length < 140737488355328
        ·rw [if_pos c21] at H
         have LMc21 := Aside0.mk c21
         clear c21
         obtain ⟨y129, hy129⟩ : ∃ y_ : List Bool, y_ = (y126 ++ [true]) := ⟨_, rfl⟩
         replace H : ((ferruleref12_Models.f kj3 l0 a1 y129).bind fun t132 => (if t120.length + t132.length < 5864062014805 then (some (t120 ++ t132)) else (none))) = some r := by first | (rw [hy129]; with_reducible exact H) | (have H2_ := (Option.bind_some _ _).symm.trans H; rw [hy129]; with_reducible exact H2_) | (have H2_ := (Option.bind_some _ _).symm.trans H; with_reducible exact H2_) | with_reducible exact H | (rw [hy129]; exact H) | exact H
         have Ny129 := Aside0.mk hy129
         clear hy129
         replace H := Option.bind_eq_some_iff.mp H
         obtain ⟨t132, A220, H⟩ := H
         replace H : (if t120.length + t132.length < 5864062014805 then (some (t120 ++ t132)) else (none)) = some r := H
         have A22 := Aside0.mk A220
         clear A220
         by_cases c23 : t120.length + t132.length < 5864062014805
         ·rw [if_pos c23] at H
          have LMc23 := Aside0.mk c23
          clear c23
          obtain ⟨y135, hy135⟩ : ∃ y_ : List (List Bool), y_ = (t120 ++ t132) := ⟨_, rfl⟩
          replace H : (some y135) = some r := by first | (rw [hy135]; with_reducible exact H) | (have H2_ := (Option.bind_some _ _).symm.trans H; rw [hy135]; with_reducible exact H2_) | (have H2_ := (Option.bind_some _ _).symm.trans H; with_reducible exact H2_) | with_reducible exact H | (rw [hy135]; exact H) | exact H
          have Ny135 := Aside0.mk hy135
          clear hy135
          obtain rfl := Option.some.inj H
          go_wp2_with (first | ((with_reducible refine gate_dst (N := 27) rfl ?_); refine Kd.R_lit Kd.bool _ 4 ?hg (N := 27) ?hd (xs := ([] : List Bool)) (inner := []) (ok := fun _ => True) (okp := fun _ => True) ?hr ?hp (fun _ hk => hk) trivial (Below.refl _ _) (Nat.le_refl _) (by simp) ?_; (case hd => rfl); (case hg => rfl); (case hr => first | (go_simp; done) | (go_simp; rfl)); (case hp => exact (Reps.none _ _)); intro v112 w24 ho25 hb hg_ hnew_; clear hg_ hnew_; (first | rw [← Ny111.out] at ho25 | (simp only [Int.reduceToNat] at ho25; rw [← Ny111.out] at ho25)); have HO113 := Aside0.mk (Kd.R_lower (Kd.R_newM (M := fun k_ => (w.heap.size ≤ k_)) ho25 (below_size bB) (fun k_ h_ => h_)) (below_size bB)); replace HB := aB HB hb; clear hb ho25) | ((with_reducible refine gate_builtin (b := .append) (xs := #[.tmp 27, .tmp 28]) rfl ?_); at_builtin; refine Kd.R_append_rows Kd.bool (w0 := w) w.heap.size rfl (.tmp 27) (.tmp 28) 38 4 (.bool false) 1 rfl Try.underlying38 info4 rfl (by decide) (by omega) v112 y111 l2 _ _ _ (fun k_ => (w.heap.size ≤ k_)) (fun _ => False) rfl rfl ?aO ?aR (fun _ _ h => h) (fun _ h => h.elim) ?aF ?aB ?aS ?aL ?_; (case aR => exact sW (Kd.C_below HR2.out HB.out)); (case aB => exact bB); (case aF => exact (fun k_ hk => (Nat.le_trans (below_size bB) hk))); (case aO => exact (by (with_reducible repeat (first | apply Kd.R_alloc | apply Kd.R_drewN | apply Kd.R_drew)); exact Kd.R_mono HO113.out (fun _ hk => hk.1))); (case aS => exact (below_size bB)); (case aL => have := LMc17.out; omega); intro v115 w26 ho hb hg hat; rw [← Ny114.out] at ho; replace HB := Aside0.mk hb; have HO116 := Aside0.mk ho; clear HO113; clear ho hb hg hat) | ((with_reducible refine gate_builtin (b := .append) (xs := #[.tmp 29, .tmp 30]) rfl ?_); at_builtin; refine Kd.R_append Kd.bool (w0 := w) w.heap.size rfl (.tmp 29) (.tmp 30) 38 4 (.bool false) 1 rfl Try.underlying38 info4 rfl (by decide) (by omega) v115 y114 false [.bool false] (fun k_ => (w.heap.size ≤ k_)) (fun _ => False) rfl rfl ?aP (fun _ hk => hk.elim) ?aF ?aO ?aB ?aS ?aL ?_; (case aP => exact rfl); (case aB => exact bB); (case aF => exact (fun k_ hk => (Nat.le_trans (below_size bB) hk))); (case aO => exact (aRw HO116)); (case aS => exact (below_size bB)); (case aL => have := LMc18.out; omega); intro v118 w27 ho hb hg hat; rw [← Ny117.out] at ho; replace HB := Aside0.mk hb; have HO119 := Aside0.mk ho; clear HO116; clear ho hb hg hat; obtain ⟨Ao28, co28, eo28⟩ := Kd.R_slice HO119.out; subst eo28) | ((with_reducible refine gate_callee (f := 32) rfl ?_); refine goesL_ (some 32) rfl rfl Try.func32 (by kernel_rfl) rfl #[.slice A0 l0.length c0, .int .i64 a1, .slice Ao28 y117.length co28] rfl bM ?_; (with_reducible refine (ih kj3 (by have := HJ3.out; omega) _ _ l0 a1 _ _ y117 t120 _ ?side1 ?side2 ?side3 ?side4 A19.out).mono ?_); (case side1 => exact sW (Kd.C_below HR0.out HB.out)); (case side2 => exact HC0.out); (case side3 => exact sW (Kd.R_reads' HO119.out).2.2); (case side4 => exact (Kd.R_reads' HO119.out).2.1); rintro e w29 ⟨v121, rfl, ho0, hb⟩; refine ⟨_, rfl, ?_⟩; have HO122 := Aside0.mk (Kd.N_lower (Kd.N_mono (ok' := fun k_ => (w.heap.size ≤ k_) ∧ some k_ ≠ ob Ao28 y117 co28) ho0 (fun k_ hk_ => ⟨(Nat.le_trans (below_size bB) hk_), (Kd.fresh' (Kd.R_lt (aRw HO119)) k_ hk_)⟩)) (below_size bB)); replace HO119 := aR HO119 hb; replace HB := aB HB hb; (try clear hb); (try clear hb2); (try clear hk); (try clear hi); (try clear ho0)) | ((with_reducible refine gate_dst (N := 36) rfl ?_); refine Kd.R_lit Kd.bool _ 4 ?hg (N := 36) ?hd (xs := ([] : List Bool)) (inner := []) (ok := fun _ => True) (okp := fun _ => True) ?hr ?hp (fun _ hk => hk) trivial (Below.refl _ _) (Nat.le_refl _) (by simp) ?_; (case hd => rfl); (case hg => rfl); (case hr => first | (go_simp; done) | (go_simp; rfl)); (case hp => exact (Reps.none _ _)); intro v124 w30 ho31 hb hg_ hnew_; clear hg_ hnew_; (first | rw [← Ny123.out] at ho31 | (simp only [Int.reduceToNat] at ho31; rw [← Ny123.out] at ho31)); replace HO122 := Aside0.mk (Kd.N_elder' (by (with_reducible repeat (first | apply Kd.N_alloc | apply Kd.N_drewN | apply Kd.N_drew)); exact HO122.out) (Kd.R_base ho31) hb); have HO125 := Aside0.mk (Kd.R_lower (Kd.R_new' (Kd.R_newM (M := fun k_ => (w.heap.size ≤ k_)) ho31 (below_size bB) (fun k_ h_ => h_)) (Kd.R_lt (aRw HO119))) (below_size bB)); replace HO119 := aE HO119 ho31 hb; replace HB := aB HB hb; clear hb ho31) | ((with_reducible refine gate_builtin (b := .append) (xs := #[.tmp 36, .tmp 37]) rfl ?_); at_builtin; refine Kd.R_append_rows Kd.bool (w0 := w) w.heap.size rfl (.tmp 36) (.tmp 37) 38 4 (.bool false) 1 rfl Try.underlying38 info4 rfl (by decide) (by omega) v124 y123 l2 _ _ _ (fun k_ => (w.heap.size ≤ k_) ∧ some k_ ≠ ob Ao28 y117 co28) (fun _ => False) rfl rfl ?aO ?aR (fun _ _ h => h) (fun _ h => h.elim) ?aF ?aB ?aS ?aL ?_; (case aR => exact sW (Kd.C_below HR2.out HB.out)); (case aB => exact bB); (case aF => exact (fun k_ hk => ⟨(Nat.le_trans (below_size bB) hk), Kd.fresh' (Kd.R_lt (aRw HO119)) k_ hk⟩)); (case aO => exact (by (with_reducible repeat (first | apply Kd.R_alloc | apply Kd.R_drewN | apply Kd.R_drew)); exact Kd.R_mono HO125.out bK)); (case aS => exact (below_size bB)); (case aL => have := LMc20.out; omega); intro v127 w32 ho hb hg hat; rw [← Ny126.out] at ho; replace HO119 := Aside0.mk (Kd.R_after (ok := (fun k_ => (w.heap.size ≤ k_))) (aRw HO119) hg hat); replace HO122 := Aside0.mk (Kd.N_afterv (ok := (fun k_ => (w.heap.size ≤ k_) ∧ some k_ ≠ ob Ao28 y117 co28)) (by (with_reducible repeat (first | apply Kd.N_alloc | apply Kd.N_drewN | apply Kd.N_drew)); exact HO122.out) hg hat); replace HB := Aside0.mk hb; have HO128 := Aside0.mk ho; clear HO125; clear ho hb hg hat) | ((with_reducible refine gate_builtin (b := .append) (xs := #[.tmp 38, .tmp 39]) rfl ?_); at_builtin; refine Kd.R_append Kd.bool (w0 := w) w.heap.size rfl (.tmp 38) (.tmp 39) 38 4 (.bool false) 1 rfl Try.underlying38 info4 rfl (by decide) (by omega) v127 y126 true [.bool true] (fun k_ => (w.heap.size ≤ k_) ∧ some k_ ≠ ob Ao28 y117 co28) (fun _ => False) rfl rfl ?aP (fun _ hk => hk.elim) ?aF ?aO ?aB ?aS ?aL ?_; (case aP => exact rfl); (case aB => exact bB); (case aF => exact (fun k_ hk => ⟨(Nat.le_trans (below_size bB) hk), Kd.fresh' (Kd.R_lt (aRw HO119)) k_ hk⟩)); (case aO => exact (aRw HO128)); (case aS => exact (below_size bB)); (case aL => have := LMc21.out; omega); intro v130 w33 ho hb hg hat; rw [← Ny129.out] at ho; replace HO119 := Aside0.mk (Kd.R_after (ok := (fun k_ => (w.heap.size ≤ k_))) (aRw HO119) hg hat); replace HO122 := Aside0.mk (Kd.N_afterv (ok := (fun k_ => (w.heap.size ≤ k_) ∧ some k_ ≠ ob Ao28 y117 co28)) (by (with_reducible repeat (first | apply Kd.N_alloc | apply Kd.N_drewN | apply Kd.N_drew)); exact HO122.out) hg hat); replace HB := Aside0.mk hb; have HO131 := Aside0.mk ho; clear HO128; clear ho hb hg hat; obtain ⟨Ao34, co34, eo34⟩ := Kd.R_slice HO131.out; subst eo34) | ((with_reducible refine gate_callee (f := 32) rfl ?_); refine goesL_ (some 41) rfl rfl Try.func32 (by kernel_rfl) rfl #[.slice A0 l0.length c0, .int .i64 a1, .slice Ao34 y129.length co34] rfl bM ?_; (with_reducible refine (ih kj3 (by have := HJ3.out; omega) _ _ l0 a1 _ _ y129 t132 _ ?side1 ?side2 ?side3 ?side4 A22.out).mono ?_); (case side1 => exact sW (Kd.C_below HR0.out HB.out)); (case side2 => exact HC0.out); (case side3 => exact sW (Kd.R_reads' HO131.out).2.2); (case side4 => exact (Kd.R_reads' HO131.out).2.1); rintro e w35 ⟨v133, rfl, ho0, hb⟩; refine ⟨_, rfl, ?_⟩; have HO134 := Aside0.mk (Kd.N_lower (Kd.N_mono (ok' := fun k_ => (w.heap.size ≤ k_) ∧ some k_ ≠ ob Ao28 y117 co28 ∧ some k_ ≠ (v121 : Value).ownBlock ∧ some k_ ≠ ob Ao34 y129 co34) ho0 (fun k_ hk_ => ⟨(Nat.le_trans (below_size bB) hk_), (Kd.fresh' (Kd.R_lt (aRw HO119)) k_ hk_), (Kd.fresh' (Kd.N_lt (by (with_reducible repeat (first | apply Kd.N_alloc | apply Kd.N_drewN | apply Kd.N_drew)); exact HO122.out)) k_ hk_), (Kd.fresh' (Kd.R_lt (aRw HO131)) k_ hk_)⟩)) (below_size bB)); replace HO119 := aR HO119 hb; replace HO122 := Aside0.mk (Kd.N_elder' (by (with_reducible repeat (first | apply Kd.N_alloc | apply Kd.N_drewN | apply Kd.N_drew)); exact HO122.out) (Kd.N_base ho0) hb); replace HO131 := aR HO131 hb; replace HB := aB HB hb; (try clear hb); (try clear hb2); (try clear hk); (try clear hi); (try clear ho0); obtain ⟨Ao37, co37, eo37⟩ := Kd.N_slice HO134.out; subst eo37) | ((with_reducible refine gate_builtin (b := .append) (xs := #[.tmp 33, .tmp 41]) rfl ?_); at_builtin; refine Kd.N_append_rows (Kd.slice 4 Kd.bool) (w0 := w) w.heap.size rfl (.tmp 33) (.tmp 41) 48 38 (.slice none 0 0) 24 rfl Try.underlying48 info38 rfl (by decide) (by omega) v121 t120 t132 _ _ _ (fun k_ => (w.heap.size ≤ k_) ∧ some k_ ≠ ob Ao28 y117 co28 ∧ some k_ ≠ ob Ao34 y129 co34) (fun k_ => ((fun k_ => (w.heap.size ≤ k_) ∧ some k_ ≠ ob Ao28 y117 co28 ∧ some k_ ≠ ob Ao34 y129 co34)) k_ ∧ some k_ ≠ (v121 : Value).ownBlock) rfl rfl ?aO ?aR (fun _ hk => hk) ?aF ?aB ?aS ?aL ?_; (case aR => exact (by skip; exact Kd.N_F (Kd.N_mono (ok' := (fun k_ => ((fun k_ => (w.heap.size ≤ k_) ∧ some k_ ≠ ob Ao28 y117 co28 ∧ some k_ ≠ ob Ao34 y129 co34)) k_ ∧ some k_ ≠ (v121 : Value).ownBlock)) (HO134.out) (fun k_ hk => ⟨⟨hk.1, ⟨hk.2.1, hk.2.2.2⟩⟩, hk.2.2.1⟩)))); (case aB => exact bB); (case aF => exact (fun k_ hk => ⟨(Nat.le_trans (below_size bB) hk), Kd.fresh' (Kd.R_lt (aRw HO119)) k_ hk, Kd.fresh' (Kd.R_lt (aRw HO131)) k_ hk⟩)); (case aO => exact (by (with_reducible repeat (first | apply Kd.N_alloc | apply Kd.N_drewN | apply Kd.N_drew)); exact Kd.N_mono HO122.out bK)); (case aS => exact (below_size bB)); (case aL => have := LMc23.out; omega); intro v136 w36 ho hb hg hat; rw [← Ny135.out] at ho; replace HO119 := Aside0.mk (Kd.R_over' (aRw HO119) (Kd.N_typed (by (with_reducible repeat (first | apply Kd.N_alloc | apply Kd.N_drewN | apply Kd.N_drew)); exact HO122.out)) (by decide) hg); replace HO131 := Aside0.mk (Kd.R_over' (aRw HO131) (Kd.N_typed (by (with_reducible repeat (first | apply Kd.N_alloc | apply Kd.N_drewN | apply Kd.N_drew)); exact HO122.out)) (by decide) hg); replace HO134 := Aside0.mk (Kd.N_afterv (ok := (fun k_ => (w.heap.size ≤ k_) ∧ some k_ ≠ ob Ao28 y117 co28 ∧ some k_ ≠ ob Ao34 y129 co34)) (by (with_reducible repeat (first | apply Kd.N_alloc | apply Kd.N_drewN | apply Kd.N_drew)); exact Kd.N_mono HO134.out (fun _ hk => ⟨⟨hk.1, ⟨hk.2.1, hk.2.2.2⟩⟩, hk.2.2.1⟩)) hg hat); replace HB := Aside0.mk hb; have HO137 := Aside0.mk ho; clear HO122; clear ho hb hg hat))
          go_ret
          exact ⟨_, by first | rfl | (simp [errW_none, errW_some] <;> rfl) | (simp [*, errW_none, errW_some] <;> rfl), by (with_reducible repeat (first | apply Kd.N_alloc | apply Kd.N_drewN | apply Kd.N_drew)); exact Kd.N_mono HO137.out (fun _ hk => hk.1), bB⟩
         ·rw [if_neg c23] at H
          exact absurd H (by simp)
        ·rw [if_neg c21] at H
         exact absurd H (by simp)
       ·rw [if_neg c20] at H
        exact absurd H (by simp)
      ·rw [if_neg c18] at H
       exact absurd H (by simp)
     ·rw [if_neg c17] at H
      exact absurd H (by simp)

end Go.Proofs.Ytohgjbkiemnfnaa.R
