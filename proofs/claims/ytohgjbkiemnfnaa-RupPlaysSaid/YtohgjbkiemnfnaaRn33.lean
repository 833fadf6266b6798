-- Written by a program of this session (wip/xp), out of the translation. Not trusted: Lean checks it.
import Derived.Test.YtohgjbkiemnfnaaR0
import Derived.Test.YtohgjbkiemnfnaaRn66
import Derived.Test.YtohgjbkiemnfnaaRn71
import Derived.Test.YtohgjbkiemnfnaaRi67x68
-- shrunk
namespace Go.Proofs.Ytohgjbkiemnfnaa.R
open Go.RowKit Go.Proofs.YtohgjbkiemnfnaaW.PrintWords Go.Proofs.YtohgjbkiemnfnaaW.PrintLast Go.Proofs.YtohgjbkiemnfnaaW.PrintMore
attribute [local go_sem] Lab.str_gtr Lab.str_leq Lab.str_geq max2_int min2_int max_two min_two max_three min_three max_four min_four   -- for this text's walks alone
set_option linter.unusedVariables false
set_option linter.unusedSimpArgs false

/-! ### clause_Clean: function 33 -/
mutual
def clause_Clean.l0 : Nat → List Int → List Int → Int → Int → Option (List Int × Bool)
 | 0, _, _, _, _ => none
 | k + 1, x2, x7, x8, x9 => if x9 < x8 then (if 0 ≤ x9 then (if x9 < (x7.length : Int) then ((clause_abs.f (rd x7 x9)).bind fun t102 => (if t102 > 0 then (if x2.length < 17592186044416 then (clause_Clean.l0 k (x2 ++ [rd x7 x9]) x7 x8 (wrap64 (x9 + 1))) else (none)) else (clause_Clean.l0 k x2 x7 x8 (wrap64 (x9 + 1))))) else (none)) else (none)) else ((slices_SortFunc_int_int__of68.f x2).bind fun t106 => ((slices_Compact_int_int.f t106).bind fun t107 => (clause_Clean.l1 k t107 1)))
def clause_Clean.l1 : Nat → List Int → Int → Option (List Int × Bool)
 | 0, _, _ => none
 | k + 1, x2, x6 => if x6 < (x2.length : Int) then (if 0 ≤ (wrap64 (x6 - 1)) then (if (wrap64 (x6 - 1)) < (x2.length : Int) then (if 0 ≤ x6 then (if (rd x2 (wrap64 (x6 - 1))) = (wrap64 (-(rd x2 x6))) then (some (([] : List Int), true)) else (clause_Clean.l1 k x2 (wrap64 (x6 + 1)))) else (none)) else (none)) else (none)) else (some (x2, false))
end
def clause_Clean.f (k : Nat) (l0 : List Int) : Option (List Int × Bool) := clause_Clean.l0 k ([] : List Int) l0 (l0.length : Int) 0
theorem clause_Clean.mono_l : ∀ k, (∀ y0 y1 y2 y3, LeO (clause_Clean.l0 k y0 y1 y2 y3) (clause_Clean.l0 (k + 1) y0 y1 y2 y3)) ∧ (∀ y0 y1, LeO (clause_Clean.l1 k y0 y1) (clause_Clean.l1 (k + 1) y0 y1))
 | 0 => ⟨fun _ _ _ _ r h => by simp [clause_Clean.l0] at h, fun _ _ r h => by simp [clause_Clean.l1] at h⟩
 | k + 1 => by
  obtain ⟨ih0, ih1⟩ := clause_Clean.mono_l k
  refine ⟨?_, ?_⟩
  ·intro y0 y1 y2 y3
   unfold clause_Clean.l0
   repeat' first
   | (with_reducible exact ih0 _ _ _ _)
   | (with_reducible exact ih1 _ _)
   | (with_reducible exact LeO.refl _)
   | (with_reducible exact LeO.none _)
   | (with_reducible refine LeO.ite ?_ ?_)
   | (with_reducible refine LeO.bind ?_ (fun _ => ?_))
   | exact ih0 _ _ _ _
   | exact ih1 _ _
   | exact LeO.none _
   | refine LeO.ite ?_ ?_
   | refine LeO.bind ?_ (fun _ => ?_)
  ·intro y0 y1
   unfold clause_Clean.l1
   repeat' first
   | (with_reducible exact ih0 _ _ _ _)
   | (with_reducible exact ih1 _ _)
   | (with_reducible exact LeO.refl _)
   | (with_reducible exact LeO.none _)
   | (with_reducible refine LeO.ite ?_ ?_)
   | (with_reducible refine LeO.bind ?_ (fun _ => ?_))
   | exact ih0 _ _ _ _
   | exact ih1 _ _
   | exact LeO.none _
   | refine LeO.ite ?_ ?_
   | refine LeO.bind ?_ (fun _ => ?_)
theorem clause_Clean.mono : ∀ a0 k, LeO (clause_Clean.f k a0) (clause_Clean.f (k + 1) a0) := by
 intro a0 k
 obtain ⟨ih0, ih1⟩ := clause_Clean.mono_l k
 unfold clause_Clean.f
 repeat' first
   | (with_reducible exact ih0 _ _ _ _)
   | (with_reducible exact ih1 _ _)
   | (with_reducible exact LeO.refl _)
   | (with_reducible exact LeO.none _)
   | (with_reducible refine LeO.ite ?_ ?_)
   | (with_reducible refine LeO.bind ?_ (fun _ => ?_))
   | exact ih0 _ _ _ _
   | exact ih1 _ _
   | exact LeO.none _
   | refine LeO.ite ?_ ?_
   | refine LeO.bind ?_ (fun _ => ?_)
set_option maxHeartbeats 8000000 in
set_option maxRecDepth 100000 in
theorem clause_Clean.calls (k : Nat) (A0 : Option Addr) (c0 : Nat) (l0 : List Int) (r1 : List Int) (r2 : Bool) (w : World) (hr0 : Kd.C (Kd.int .i64) w A0 l0.length l0) (hc0 : l0.length ≤ c0) (h : clause_Clean.f k l0 = some (r1, r2)) :
  Calls Try.prog 33 #[.slice A0 l0.length c0] w fun e w' => ∃ v0_ : Value, e = .returned (.tuple #[v0_, .bool r2]) ∧ Kd.R (Kd.int .i64) 3 w' w.heap.size (fun _ => True) v0_ r1 ∧ Below w.heap.size w w' := by
 have HR0 := Aside0.mk hr0
 have HC0 := Aside0.mk hc0
 clear hr0 hc0
 have HB := Aside0.mk (Below.refl w.heap.size w)
 have H : (clause_Clean.l0 k ([] : List Int) l0 (l0.length : Int) 0) = some (r1, r2) := h
 clear h
 have H' := Aside0.mk H
 clear H
 go_enter Try.func33, Try.ntmps33
 go_wp2
 refine Lab.wp_scope_lab (Lab.scopeOf Try.f33) ?sc k ?_
 case sc => kernel_rfl
 go_wp2
 repeat (go_quiet (fail); try go_wp2)
 go_loopg [2, 9] k (fun kq v2 v9 w' => ∃ (x2_1 : List Int) (x9_1 : Int), v9 = .int .i64 x9_1 ∧ Aside0 (clause_Clean.l0 kq x2_1 l0 (l0.length : Int) x9_1 = some (r1, r2)) ∧ Aside0 (kq ≤ k) ∧ Aside0 (Kd.R (Kd.int .i64) 3 w' w.heap.size (fun _ => True) v2 x2_1) ∧ Aside0 (Below w.heap.size w w'))
 case atStart => exact ⟨(([] : List Int)), (0), bS, H', ⟨Nat.le_refl _⟩, ⟨by first | exact Kd.R_nil _ _ _ _ _ | exact Kd.N_nil _ _ _ _ _ | exact Kd.V_nil _ _ _ _ _ | exact Kd.Q_nil _ _ _ _ _ | exact Kd.S_nil _ _ _ _ _⟩, ⟨bB⟩⟩
 case round =>
  clear H'
  obtain ⟨x2_1, x9_1, rfl, HA, HK1, HO_2, HB⟩ := hrel
  cases gk with
  | zero => exact absurd HA.out (by simp [clause_Clean.l0])
  | succ k1 =>
   have H := HA.out
   clear HA
   simp only [clause_Clean.l0] at H
   by_cases c2 : x9_1 < (l0.length : Int)
   ·rw [if_pos c2] at H
    have c2b0 : decide (x9_1 < (l0.length : Int)) = true := decide_eq_true c2
    clear c2
    by_cases c3 : 0 ≤ x9_1
    ·rw [if_pos c3] at H
     have c3b0 : decide (0 ≤ x9_1) = true := decide_eq_true c3
     clear c3
     by_cases c4 : x9_1 < (l0.length : Int)
     ·rw [if_pos c4] at H
      have c4b0 : decide (x9_1 < (l0.length : Int)) = true := decide_eq_true c4
      clear c4
      replace H := Option.bind_eq_some_iff.mp H
      obtain ⟨t102, A50, H⟩ := H
      replace H : (if t102 > 0 then (if x2_1.length < 17592186044416 then (clause_Clean.l0 k1 (x2_1 ++ [rd l0 x9_1]) l0 (l0.length : Int) (wrap64 (x9_1 + 1))) else (none)) else (clause_Clean.l0 k1 x2_1 l0 (l0.length : Int) (wrap64 (x9_1 + 1)))) = some (r1, r2) := H
      have A5 := Aside0.mk A50
      clear A50
      by_cases c6 : t102 > 0
      ·rw [if_pos c6] at H
       have c6b0 : decide (0 < t102) = true := decide_eq_true c6
       clear c6
       by_cases c7 : x2_1.length < 17592186044416
       ·rw [if_pos c7] at H
        have LMc7 := Aside0.mk c7
        clear c7
        obtain ⟨y103, hy103⟩ : ∃ y_ : List Int, y_ = (x2_1 ++ [rd l0 x9_1]) := ⟨_, rfl⟩
        replace H : (clause_Clean.l0 k1 y103 l0 (l0.length : Int) (wrap64 (x9_1 + 1))) = some (r1, r2) := by first | (rw [hy103]; with_reducible exact H) | (have H2_ := (Option.bind_some _ _).symm.trans H; rw [hy103]; with_reducible exact H2_) | (have H2_ := (Option.bind_some _ _).symm.trans H; with_reducible exact H2_) | with_reducible exact H | (rw [hy103]; exact H) | exact H
        have Ny103 := Aside0.mk hy103
        clear hy103
        have H' := Aside0.mk H
        clear H
        have p101 : 0 ≤ (x9_1 : Int) := oD
        have q101 : x9_1 < (l0.length : Int) := oD
        obtain ⟨ad101, e101, hx101_0⟩ := Kd.at_int HR0.out x9_1 p101 q101
        cases e101
        replace hx101_0 := (HB.out.cell (World.block_lt_of_cell? w _ hx101_0)).trans hx101_0
        replace p101 := eq_true p101
        replace q101 := eq_true q101
        go_wp2_with (first | (go_at_call 66; (with_reducible refine (clause_abs.calls (rd l0 x9_1) t102 _ A5.out).mono ?_); rintro e w' ⟨rfl, ⟨nd, rfl⟩⟩; (try first | exact ⟨rfl, _, World.drewN_drewN _ _ _⟩ | exact ⟨rfl, _, Eq.trans (World.drewN_drewN _ _ _) (congrArg (World.drewN _) (Nat.add_assoc _ _ _))⟩)) | ((with_reducible refine gate_builtin (b := .append) (xs := #[.tmp 16, .tmp 18]) rfl ?_); at_builtin; refine Kd.R_append (Kd.int .i64) (w0 := w) w.heap.size rfl (.tmp 16) (.tmp 18) 22 3 (.int .i64 0) 8 rfl Try.underlying22 info3 rfl (by decide) (by omega) u2 x2_1 (rd l0 x9_1) [.int .i64 (rd l0 x9_1)] (fun _ => True) (fun _ => False) rfl rfl ?aP (fun _ hk => hk.elim) ?aF ?aO ?aB ?aS ?aL ?_; (case aP => exact rfl); (case aB => exact bB); (case aF => exact (fun _ _ => trivial)); (case aO => exact (aRw HO_2)); (case aS => exact (below_size bB)); (case aL => have := LMc7.out; omega); intro v104 w8 ho hb hg hat; rw [← Ny103.out] at ho; replace HB := Aside0.mk hb; have HO105 := Aside0.mk ho; clear HO_2; clear ho hb hg hat))
        repeat (go_quiet (first | (go_at_call 66; (with_reducible refine (clause_abs.calls (rd l0 x9_1) t102 _ A5.out).mono ?_); rintro e w' ⟨rfl, ⟨nd, rfl⟩⟩; (try first | exact ⟨rfl, _, World.drewN_drewN _ _ _⟩ | exact ⟨rfl, _, Eq.trans (World.drewN_drewN _ _ _) (congrArg (World.drewN _) (Nat.add_assoc _ _ _))⟩)) | ((with_reducible refine gate_builtin (b := .append) (xs := #[.tmp 16, .tmp 18]) rfl ?_); at_builtin; refine Kd.R_append (Kd.int .i64) (w0 := w) w.heap.size rfl (.tmp 16) (.tmp 18) 22 3 (.int .i64 0) 8 rfl Try.underlying22 info3 rfl (by decide) (by omega) u2 x2_1 (rd l0 x9_1) [.int .i64 (rd l0 x9_1)] (fun _ => True) (fun _ => False) rfl rfl ?aP (fun _ hk => hk.elim) ?aF ?aO ?aB ?aS ?aL ?_; (case aP => exact rfl); (case aB => exact bB); (case aF => exact (fun _ _ => trivial)); (case aO => exact (aRw HO_2)); (case aS => exact (below_size bB)); (case aL => have := LMc7.out; omega); intro v104 w8 ho hb hg hat; rw [← Ny103.out] at ho; replace HB := Aside0.mk hb; have HO105 := Aside0.mk ho; clear HO_2; clear ho hb hg hat)); try go_wp2_with (first | (go_at_call 66; (with_reducible refine (clause_abs.calls (rd l0 x9_1) t102 _ A5.out).mono ?_); rintro e w' ⟨rfl, ⟨nd, rfl⟩⟩; (try first | exact ⟨rfl, _, World.drewN_drewN _ _ _⟩ | exact ⟨rfl, _, Eq.trans (World.drewN_drewN _ _ _) (congrArg (World.drewN _) (Nat.add_assoc _ _ _))⟩)) | ((with_reducible refine gate_builtin (b := .append) (xs := #[.tmp 16, .tmp 18]) rfl ?_); at_builtin; refine Kd.R_append (Kd.int .i64) (w0 := w) w.heap.size rfl (.tmp 16) (.tmp 18) 22 3 (.int .i64 0) 8 rfl Try.underlying22 info3 rfl (by decide) (by omega) u2 x2_1 (rd l0 x9_1) [.int .i64 (rd l0 x9_1)] (fun _ => True) (fun _ => False) rfl rfl ?aP (fun _ hk => hk.elim) ?aF ?aO ?aB ?aS ?aL ?_; (case aP => exact rfl); (case aB => exact bB); (case aF => exact (fun _ _ => trivial)); (case aO => exact (aRw HO_2)); (case aS => exact (below_size bB)); (case aL => have := LMc7.out; omega); intro v104 w8 ho hb hg hat; rw [← Ny103.out] at ho; replace HB := Aside0.mk hb; have HO105 := Aside0.mk ho; clear HO_2; clear ho hb hg hat)))
        go_roundg k1
        case measure => have := HK1.out; omega
        case rel => exact ⟨(y103), (wrap64 (x9_1 + 1)), bS, H', ⟨by have := HK1.out; omega⟩, ⟨aRw HO105⟩, ⟨bB⟩⟩
       ·rw [if_neg c7] at H
        exact absurd H (by simp)
      ·rw [if_neg c6] at H
       have c6b0 : decide (0 < t102) = false := decide_eq_false c6
       clear c6
       have H' := Aside0.mk H
       clear H
       have p101 : 0 ≤ (x9_1 : Int) := oD
       have q101 : x9_1 < (l0.length : Int) := oD
       obtain ⟨ad101, e101, hx101_0⟩ := Kd.at_int HR0.out x9_1 p101 q101
       cases e101
       replace hx101_0 := (HB.out.cell (World.block_lt_of_cell? w _ hx101_0)).trans hx101_0
       replace p101 := eq_true p101
       replace q101 := eq_true q101
       go_wp2_with (first | (go_at_call 66; (with_reducible refine (clause_abs.calls (rd l0 x9_1) t102 _ A5.out).mono ?_); rintro e w' ⟨rfl, ⟨nd, rfl⟩⟩; (try first | exact ⟨rfl, _, World.drewN_drewN _ _ _⟩ | exact ⟨rfl, _, Eq.trans (World.drewN_drewN _ _ _) (congrArg (World.drewN _) (Nat.add_assoc _ _ _))⟩)))
       repeat (go_quiet (first | (go_at_call 66; (with_reducible refine (clause_abs.calls (rd l0 x9_1) t102 _ A5.out).mono ?_); rintro e w' ⟨rfl, ⟨nd, rfl⟩⟩; (try first | exact ⟨rfl, _, World.drewN_drewN _ _ _⟩ | exact ⟨rfl, _, Eq.trans (World.drewN_drewN _ _ _) (congrArg (World.drewN _) (Nat.add_assoc _ _ _))⟩))); try go_wp2_with (first | (go_at_call 66; (with_reducible refine (clause_abs.calls (rd l0 x9_1) t102 _ A5.out).mono ?_); rintro e w' ⟨rfl, ⟨nd, rfl⟩⟩; (try first | exact ⟨rfl, _, World.drewN_drewN _ _ _⟩ | exact ⟨rfl, _, Eq.trans (World.drewN_drewN _ _ _) (congrArg (World.drewN _) (Nat.add_assoc _ _ _))⟩))))
       go_roundg k1
       case measure => have := HK1.out; omega
       case rel => exact ⟨(x2_1), (wrap64 (x9_1 + 1)), bS, H', ⟨by have := HK1.out; omega⟩, ⟨aRw HO_2⟩, ⟨bB⟩⟩
     ·rw [if_neg c4] at H
      exact absurd H (by simp)
    ·rw [if_neg c3] at H
     exact absurd H (by simp)
   ·rw [if_neg c2] at H
    have c2b0 : decide (x9_1 < (l0.length : Int)) = false := decide_eq_false c2
    clear c2
    replace H := Option.bind_eq_some_iff.mp H
    obtain ⟨t106, A90, H⟩ := H
    replace H : ((slices_Compact_int_int.f t106).bind fun t107 => (clause_Clean.l1 k1 t107 1)) = some (r1, r2) := H
    have A9 := Aside0.mk A90
    clear A90
    replace H := Option.bind_eq_some_iff.mp H
    obtain ⟨t107, A100, H⟩ := H
    replace H : (clause_Clean.l1 k1 t107 1) = some (r1, r2) := H
    have A10 := Aside0.mk A100
    clear A100
    have H' := Aside0.mk H
    clear H
    obtain ⟨Ao11, co11, eo11⟩ := Kd.R_slice HO_2.out
    subst eo11
    go_wp2_with (first | (go_at_call 67; (with_reducible refine (slices_SortFunc_int_int__of68.calls (fun k_ => some k_ = ob Ao11 x2_1 co11) (.slice Ao11 x2_1.length co11) x2_1  t106 w _ ?side1 ?side2 A9.out).mono ?_); (case side1 => repeat (first | (with_reducible first | exact HB.out | apply below_alloc | apply pw_below_drewN | apply below_drew1) | exact HB.out)); (case side2 => exact Kd.R_tight rfl HO_2.out); rintro e w12 ⟨rfl, hy0, hb, hkp⟩; replace HO_2 := Aside0.mk (Kd.R_reok rfl hy0 (fun k_ e_ => HO_2.out.1 k_ e_)); replace HB := Aside0.mk hb; (try clear hb); (try clear hkp); (try clear hy0)) | (go_at_call 71; (with_reducible refine (slices_Compact_int_int.calls (fun k_ => some k_ = ob Ao11 x2_1 co11) (.slice Ao11 x2_1.length co11) t106 t107 w _ ?side1 ?side2 A10.out).mono ?_); (case side1 => repeat (first | (with_reducible first | exact HB.out | apply below_alloc | apply pw_below_drewN | apply below_drew1) | exact HB.out)); (case side2 => exact Kd.R_tight rfl HO_2.out); rintro e w13 ⟨v108, rfl, ho0, hb, hkp⟩; have HO109 := Aside0.mk (Kd.R_mono (ok' := fun k_ => True) ho0 (fun k_ hk_ => trivial)); replace HB := Aside0.mk hb; clear HO_2; (try clear hb); (try clear hkp); (try clear ho0)))
    repeat (go_quiet (first | (go_at_call 67; (with_reducible refine (slices_SortFunc_int_int__of68.calls (fun k_ => some k_ = ob Ao11 x2_1 co11) (.slice Ao11 x2_1.length co11) x2_1  t106 w _ ?side1 ?side2 A9.out).mono ?_); (case side1 => repeat (first | (with_reducible first | exact HB.out | apply below_alloc | apply pw_below_drewN | apply below_drew1) | exact HB.out)); (case side2 => exact Kd.R_tight rfl HO_2.out); rintro e w12 ⟨rfl, hy0, hb, hkp⟩; replace HO_2 := Aside0.mk (Kd.R_reok rfl hy0 (fun k_ e_ => HO_2.out.1 k_ e_)); replace HB := Aside0.mk hb; (try clear hb); (try clear hkp); (try clear hy0)) | (go_at_call 71; (with_reducible refine (slices_Compact_int_int.calls (fun k_ => some k_ = ob Ao11 x2_1 co11) (.slice Ao11 x2_1.length co11) t106 t107 w _ ?side1 ?side2 A10.out).mono ?_); (case side1 => repeat (first | (with_reducible first | exact HB.out | apply below_alloc | apply pw_below_drewN | apply below_drew1) | exact HB.out)); (case side2 => exact Kd.R_tight rfl HO_2.out); rintro e w13 ⟨v108, rfl, ho0, hb, hkp⟩; have HO109 := Aside0.mk (Kd.R_mono (ok' := fun k_ => True) ho0 (fun k_ hk_ => trivial)); replace HB := Aside0.mk hb; clear HO_2; (try clear hb); (try clear hkp); (try clear ho0))); try go_wp2_with (first | (go_at_call 67; (with_reducible refine (slices_SortFunc_int_int__of68.calls (fun k_ => some k_ = ob Ao11 x2_1 co11) (.slice Ao11 x2_1.length co11) x2_1  t106 w _ ?side1 ?side2 A9.out).mono ?_); (case side1 => repeat (first | (with_reducible first | exact HB.out | apply below_alloc | apply pw_below_drewN | apply below_drew1) | exact HB.out)); (case side2 => exact Kd.R_tight rfl HO_2.out); rintro e w12 ⟨rfl, hy0, hb, hkp⟩; replace HO_2 := Aside0.mk (Kd.R_reok rfl hy0 (fun k_ e_ => HO_2.out.1 k_ e_)); replace HB := Aside0.mk hb; (try clear hb); (try clear hkp); (try clear hy0)) | (go_at_call 71; (with_reducible refine (slices_Compact_int_int.calls (fun k_ => some k_ = ob Ao11 x2_1 co11) (.slice Ao11 x2_1.length co11) t106 t107 w _ ?side1 ?side2 A10.out).mono ?_); (case side1 => repeat (first | (with_reducible first | exact HB.out | apply below_alloc | apply pw_below_drewN | apply below_drew1) | exact HB.out)); (case side2 => exact Kd.R_tight rfl HO_2.out); rintro e w13 ⟨v108, rfl, ho0, hb, hkp⟩; have HO109 := Aside0.mk (Kd.R_mono (ok' := fun k_ => True) ho0 (fun k_ hk_ => trivial)); replace HB := Aside0.mk hb; clear HO_2; (try clear hb); (try clear hkp); (try clear ho0))))
    go_step3
    go_step
    (try go_step)
    refine Lab.wp_at_label (l := 0) (fun a0_ kq a_ w_ => ∃ u2 u6 : Value, ((fun kq v2 v6 w' => ∃ (x2_2 : List Int) (x6_2 : Int), v6 = .int .i64 x6_2 ∧ Aside0 (clause_Clean.l1 kq x2_2 x6_2 = some (r1, r2)) ∧ Aside0 (kq ≤ k1) ∧ Aside0 (Kd.R (Kd.int .i64) 3 w' w.heap.size (fun _ => True) v2 x2_2) ∧ Aside0 (Below w.heap.size w w')) kq u2 u6 w_) ∧ a_ = ((((((((((((((((((((((((((((((((((((a0_.put (some 2) u2).put (some 3) (Lab.tmp a_ 3)).put (some 6) u6).put (some 10) (Lab.tmp a_ 10)).put (some 11) (Lab.tmp a_ 11)).put (some 12) (Lab.tmp a_ 12)).put (some 13) (Lab.tmp a_ 13)).put (some 14) (Lab.tmp a_ 14)).put (some 15) (Lab.tmp a_ 15)).put (some 16) (Lab.tmp a_ 16)).put (some 17) (Lab.tmp a_ 17)).put (some 18) (Lab.tmp a_ 18)).put (some 19) (Lab.tmp a_ 19)).put (some 20) (Lab.tmp a_ 20)).put (some 21) (Lab.tmp a_ 21)).put (some 22) (Lab.tmp a_ 22)).put (some 23) (Lab.tmp a_ 23)).put (some 24) (Lab.tmp a_ 24)).put (some 25) (Lab.tmp a_ 25)).put (some 26) (Lab.tmp a_ 26)).put (some 27) (Lab.tmp a_ 27)).put (some 28) (Lab.tmp a_ 28)).put (some 29) (Lab.tmp a_ 29)).put (some 30) (Lab.tmp a_ 30)).put (some 31) (Lab.tmp a_ 31)).put (some 32) (Lab.tmp a_ 32)).put (some 33) (Lab.tmp a_ 33)).put (some 34) (Lab.tmp a_ 34)).put (some 35) (Lab.tmp a_ 35)).put (some 36) (Lab.tmp a_ 36)).put (some 37) (Lab.tmp a_ 37)).put (some 38) (Lab.tmp a_ 38)).put (some 39) (Lab.tmp a_ 39)).put (some 40) (Lab.tmp a_ 40)).put (some 41) (Lab.tmp a_ 41)).put (some 42) (Lab.tmp a_ 42))) k1 ?fl (by have := HK1.out; first | omega | exact Nat.le_refl _) ?atStart ?round
    case fl => kernel_rfl
    case atStart =>
     (repeat apply Exists.intro)
     refine ⟨?rel, ?fr⟩
     case fr => (simp only [Act.put, List.setIfInBounds_toArray, List.set_cons_zero, List.set_cons_succ] <;> rfl)
     case rel => exact ⟨(t107), (1), bS, H', ⟨Nat.le_refl _⟩, ⟨aRw HO109⟩, ⟨bB⟩⟩
    case round =>
     intro gk a_ wr hle_ hinv HIH_1
     clear hle_
     obtain ⟨u2, u6, hrel, hfr_⟩ := hinv
     generalize hU_ : Lab.tmp a_ = U_ at hfr_
     clear hU_
     subst hfr_
     (try dsimp only at hrel)
     simp only [Act.put, List.setIfInBounds_toArray, List.set_cons_zero, List.set_cons_succ]
     clear H'
     try clear p1
     try clear q1
     try clear hx1
     try clear c2
     try clear c2b0
     try clear p2
     try clear c3
     try clear c3b0
     try clear p3
     try clear c4
     try clear c4b0
     try clear c6
     try clear c6b0
     try clear p6
     try clear c7
     try clear p10
     try clear q10
     try clear hx10
     try clear hx101_0
     try clear p101
     try clear q101
     obtain ⟨x2_2, x6_2, rfl, HA, HK2, HO_2, HB⟩ := hrel
     cases gk with
     | zero => exact absurd HA.out (by simp [clause_Clean.l1])
     | succ k2 =>
      have H := HA.out
      clear HA
      simp only [clause_Clean.l1] at H
      by_cases c14 : x6_2 < (x2_2.length : Int)
      ·rw [if_pos c14] at H
       have c14b0 : decide (x6_2 < (x2_2.length : Int)) = true := decide_eq_true c14
       clear c14
       obtain ⟨ji15, hji15⟩ : ∃ j_ : Int, (wrap64 (x6_2 - 1)) = j_ := ⟨_, rfl⟩
       replace H : (if 0 ≤ (ji15) then (if (ji15) < (x2_2.length : Int) then (if 0 ≤ x6_2 then (if (rd x2_2 (ji15)) = (wrap64 (-(rd x2_2 x6_2))) then (some (([] : List Int), true)) else (clause_Clean.l1 k2 x2_2 (wrap64 (x6_2 + 1)))) else (none)) else (none)) else (none)) = some (r1, r2) := by first | (rw [hji15] at H; exact H) | (simp only [hji15] at H ⊢; exact H)
       have hji15w : (IntKind.i64.wrap (x6_2 - 1)) = ji15 := (i64_w _).trans hji15
       by_cases c16 : 0 ≤ (ji15)
       ·rw [if_pos c16] at H
        have c16b0 : decide (0 ≤ (ji15)) = true := decide_eq_true c16
        clear c16
        by_cases c17 : (ji15) < (x2_2.length : Int)
        ·rw [if_pos c17] at H
         have c17b0 : decide ((ji15) < (x2_2.length : Int)) = true := decide_eq_true c17
         clear c17
         by_cases c18 : 0 ≤ x6_2
         ·rw [if_pos c18] at H
          have c18b0 : decide (0 ≤ x6_2) = true := decide_eq_true c18
          clear c18
          by_cases c19 : (rd x2_2 (ji15)) = (wrap64 (-(rd x2_2 x6_2)))
          ·rw [if_pos c19] at H
           have c19b0 : ((rd x2_2 (ji15)) == (wrap64 (-(rd x2_2 x6_2)))) = true := beq_iff_eq.mpr c19
           have c19b1 : ((rd x2_2 (ji15)) != (wrap64 (-(rd x2_2 x6_2)))) = false := bne_eq_false_iff_eq.mpr c19
           clear c19
           simp only [Option.some.injEq, Prod.mk.injEq] at H
           obtain ⟨rfl, rfl⟩ := H
           obtain ⟨Ao20, co20, eo20⟩ := Kd.R_slice HO_2.out
           subst eo20
           have p110 : 0 ≤ ((ji15) : Int) := oD
           have q110 : (ji15) < (x2_2.length : Int) := oD
           obtain ⟨ad110, e110, hx110_0⟩ := Kd.at_int (Kd.R_reads' HO_2.out).2.2 (ji15) p110 q110
           cases e110
           replace p110 := eq_true p110
           replace q110 := eq_true q110
           have p111 : 0 ≤ (x6_2 : Int) := oD
           have q111 : x6_2 < (x2_2.length : Int) := oD
           obtain ⟨ad111, e111, hx111_0⟩ := Kd.at_int (Kd.R_reads' HO_2.out).2.2 x6_2 p111 q111
           obtain rfl : ad110 = ad111 := (by injection e111)
           replace p111 := eq_true p111
           replace q111 := eq_true q111
           go_wp2
           repeat (go_quiet (fail); try go_wp2)
           (try simp only [Exit.then, Exit.inBlock, Lab.gotos])
           go_ret2
           exact ⟨_, by first | rfl | (simp [errW_none, errW_some] <;> rfl) | (simp only [← hji15]; first | rfl | (simp [errW_none, errW_some] <;> rfl)) | (simp [*, errW_none, errW_some] <;> rfl), by first | exact Kd.R_nil _ _ _ _ _ | exact Kd.N_nil _ _ _ _ _ | exact Kd.V_nil _ _ _ _ _ | exact Kd.Q_nil _ _ _ _ _ | exact Kd.S_nil _ _ _ _ _, bB⟩
          ·rw [if_neg c19] at H
           have c19b0 : ((rd x2_2 (ji15)) == (wrap64 (-(rd x2_2 x6_2)))) = false := beq_eq_false_iff_ne.mpr c19
           have c19b1 : ((rd x2_2 (ji15)) != (wrap64 (-(rd x2_2 x6_2)))) = true := bne_iff_ne.mpr c19
           have H' := Aside0.mk H
           clear H
           obtain ⟨Ao21, co21, eo21⟩ := Kd.R_slice HO_2.out
           subst eo21
           have p110 : 0 ≤ ((ji15) : Int) := oD
           have q110 : (ji15) < (x2_2.length : Int) := oD
           obtain ⟨ad110, e110, hx110_0⟩ := Kd.at_int (Kd.R_reads' HO_2.out).2.2 (ji15) p110 q110
           cases e110
           replace p110 := eq_true p110
           replace q110 := eq_true q110
           have p111 : 0 ≤ (x6_2 : Int) := oD
           have q111 : x6_2 < (x2_2.length : Int) := oD
           obtain ⟨ad111, e111, hx111_0⟩ := Kd.at_int (Kd.R_reads' HO_2.out).2.2 x6_2 p111 q111
           obtain rfl : ad110 = ad111 := (by injection e111)
           replace p111 := eq_true p111
           replace q111 := eq_true q111
           go_wp2
           repeat (go_quiet (fail); try go_wp2)
           go_step3
           (try simp only [Exit.then, Exit.inBlock, Lab.gotos])
           refine Lab.again HIH_1 k2 ?lm1 ?lm2 ?lm3
           case lm1 => have := HK1.out; have := HK2.out; omega
           case lm2 => have := HK1.out; have := HK2.out; omega
           case lm3 =>
            (repeat apply Exists.intro)
            refine ⟨?rel, ?fr⟩
            case fr => (simp only [Act.put, List.setIfInBounds_toArray, List.set_cons_zero, List.set_cons_succ] <;> rfl)
            case rel => exact ⟨(x2_2), (wrap64 (x6_2 + 1)), bS, H', ⟨by have := HK1.out; have := HK2.out; omega⟩, ⟨aRw HO_2⟩, ⟨bB⟩⟩
         ·rw [if_neg c18] at H
          exact absurd H (by simp)
        ·rw [if_neg c17] at H
         exact absurd H (by simp)
       ·rw [if_neg c16] at H
        exact absurd H (by simp)
      ·rw [if_neg c14] at H
       have c14b0 : decide (x6_2 < (x2_2.length : Int)) = false := decide_eq_false c14
       clear c14
       simp only [Option.some.injEq, Prod.mk.injEq] at H
       obtain ⟨rfl, rfl⟩ := H
       obtain ⟨Ao22, co22, eo22⟩ := Kd.R_slice HO_2.out
       subst eo22
       go_wp2
       repeat (go_quiet (fail); try go_wp2)
       (try simp only [Exit.then, Exit.inBlock, Lab.gotos])
       go_ret2
       exact ⟨_, by first | rfl | (simp [errW_none, errW_some] <;> rfl) | (simp [*, errW_none, errW_some] <;> rfl), aRw HO_2, bB⟩

end Go.Proofs.Ytohgjbkiemnfnaa.R
