-- Written by a program of this session (wip/xp), out of the translation. Not trusted: Lean checks it.
import Derived.Test.YtcebjhbphcoboaaX0
import Derived.Test.YtcebjhbphcoboaaXn47
import Derived.Test.YtcebjhbphcoboaaXm
-- shrunk
namespace Go.Proofs.Ytcebjhbphcoboaa.X
open Go.RowKit Go.Proofs.YtcebjhbphcoboaaW.PrintWords Go.Proofs.YtcebjhbphcoboaaW.PrintLast Go.Proofs.YtcebjhbphcoboaaW.PrintMore
attribute [local go_sem] Lab.str_gtr Lab.str_leq Lab.str_geq max2_int min2_int max_two min_two max_three min_three max_four min_four   -- for this text's walks alone
set_option linter.unusedVariables false
set_option linter.unusedSimpArgs false

/-! ### ferruleref15_Explained: function 85 -/
def ferruleref15_Explained.l0 : Nat → List Int → Int → Int → List Int → Int → Option (List Int)
 | 0, _, _, _, _, _ => none
 | k + 1, x0, x1, x3, x9, x10 => if x10 < (wrap64 ((x9.length : Int) - x3)) then ((ferruleref15_without.f x9 x10).bind fun t107 => ((ferruleref15_Allowed.f k x0 x1 t107).bind fun t110 => (if (t110.length : Int) = 0 then ((ferruleref15_without.f x9 x10).bind fun t113 => (ferruleref15_Explained.l0 k x0 x1 x3 t113 x10)) else (ferruleref15_Explained.l0 k x0 x1 x3 x9 (wrap64 (x10 + 1)))))) else (some x9)
def ferruleref15_Explained.f (k : Nat) (l0 : List Int) (a1 : Int) (l2 : List Int) (a3 : Int) : Option (List Int) := (some (([] : List Int) : List Int)).bind fun y101 => (if y101.length + l2.length < 17592186044416 then (ferruleref15_Explained.l0 k l0 a1 a3 (y101 ++ l2) 0) else (none))
theorem ferruleref15_Explained.mono_l : ∀ k, (∀ y0 y1 y2 y3 y4, LeO (ferruleref15_Explained.l0 k y0 y1 y2 y3 y4) (ferruleref15_Explained.l0 (k + 1) y0 y1 y2 y3 y4))
 | 0 => fun _ _ _ _ _ r h => by simp [ferruleref15_Explained.l0] at h
 | k + 1 => by
  have ih0 := ferruleref15_Explained.mono_l k
  ·intro y0 y1 y2 y3 y4
   unfold ferruleref15_Explained.l0
   repeat' first
   | (with_reducible exact ih0 _ _ _ _ _)
   | (with_reducible exact ferruleref15_Allowed.mono _ _ _ _)
   | (with_reducible exact LeO.refl _)
   | (with_reducible exact LeO.none _)
   | (with_reducible refine LeO.ite ?_ ?_)
   | (with_reducible refine LeO.bind ?_ (fun _ => ?_))
   | exact ih0 _ _ _ _ _
   | exact ferruleref15_Allowed.mono _ _ _ _
   | exact LeO.none _
   | refine LeO.ite ?_ ?_
   | refine LeO.bind ?_ (fun _ => ?_)
theorem ferruleref15_Explained.mono : ∀ a0 a1 a2 a3 k, LeO (ferruleref15_Explained.f k a0 a1 a2 a3) (ferruleref15_Explained.f (k + 1) a0 a1 a2 a3) := by
 intro a0 a1 a2 a3 k
 have ih0 := ferruleref15_Explained.mono_l k
 unfold ferruleref15_Explained.f
 repeat' first
   | (with_reducible exact ih0 _ _ _ _ _)
   | (with_reducible exact ferruleref15_Allowed.mono _ _ _ _)
   | (with_reducible exact LeO.refl _)
   | (with_reducible exact LeO.none _)
   | (with_reducible refine LeO.ite ?_ ?_)
   | (with_reducible refine LeO.bind ?_ (fun _ => ?_))
   | exact ih0 _ _ _ _ _
   | exact ferruleref15_Allowed.mono _ _ _ _
   | exact LeO.none _
   | refine LeO.ite ?_ ?_
   | refine LeO.bind ?_ (fun _ => ?_)
set_option maxHeartbeats 8000000 in
set_option maxRecDepth 100000 in
theorem ferruleref15_Explained.calls (k : Nat) (A0 : Option Addr) (c0 : Nat) (l0 : List Int) (a1 : Int) (A2 : Option Addr) (c2 : Nat) (l2 : List Int) (a3 : Int) (r : List Int) (w : World) (hr0 : Kd.C (Kd.int .i64) w A0 l0.length l0) (hc0 : l0.length ≤ c0) (hr2 : Kd.C (Kd.int .i64) w A2 l2.length l2) (hc2 : l2.length ≤ c2) (h : ferruleref15_Explained.f k l0 a1 l2 a3 = some r) :
  Calls Try.prog 85 #[.slice A0 l0.length c0, .int .i64 a1, .slice A2 l2.length c2, .int .i64 a3] w fun e w' => ∃ v0_ : Value, e = .returned (v0_) ∧ Kd.R (Kd.int .i64) 3 w' w.heap.size (fun _ => True) v0_ r ∧ Below w.heap.size w w' := by
 have HR0 := Aside0.mk hr0
 have HC0 := Aside0.mk hc0
 clear hr0 hc0
 have HR2 := Aside0.mk hr2
 have HC2 := Aside0.mk hc2
 clear hr2 hc2
 have HB := Aside0.mk (Below.refl w.heap.size w)
 have H : ((some (([] : List Int) : List Int)).bind fun y101 => (if y101.length + l2.length < 17592186044416 then (ferruleref15_Explained.l0 k l0 a1 a3 (y101 ++ l2) 0) else (none))) = some r := h
 clear h
 obtain ⟨y101, hy101⟩ : ∃ y_ : List Int, y_ = (([] : List Int)) := ⟨_, rfl⟩
 replace H : (if y101.length + l2.length < 17592186044416 then (ferruleref15_Explained.l0 k l0 a1 a3 (y101 ++ l2) 0) else (none)) = some r := by first | (rw [hy101]; with_reducible exact H) | (have H2_ := (Option.bind_some _ _).symm.trans H; rw [hy101]; with_reducible exact H2_) | (have H2_ := (Option.bind_some _ _).symm.trans H; with_reducible exact H2_) | with_reducible exact H | (rw [hy101]; exact H) | exact H
 have Ny101 := Aside0.mk hy101
 clear hy101
 by_cases c5 : y101.length + l2.length < 17592186044416
 ·rw [if_pos c5] at H
  have LMc5 := Aside0.mk c5
  clear c5
  obtain ⟨y104, hy104⟩ : ∃ y_ : List Int, y_ = (y101 ++ l2) := ⟨_, rfl⟩
  replace H : (ferruleref15_Explained.l0 k l0 a1 a3 y104 0) = some r := by first | (rw [hy104]; with_reducible exact H) | (have H2_ := (Option.bind_some _ _).symm.trans H; rw [hy104]; with_reducible exact H2_) | (have H2_ := (Option.bind_some _ _).symm.trans H; with_reducible exact H2_) | with_reducible exact H | (rw [hy104]; exact H) | exact H
  have Ny104 := Aside0.mk hy104
  clear hy104
  have H' := Aside0.mk H
  clear H
  go_enter Try.func85, Try.ntmps85
  go_wp2_with (first | ((with_reducible refine gate_dst (N := 11) rfl ?_); refine Kd.R_lit (Kd.int .i64) _ 3 ?hg (N := 11) ?hd (xs := ([] : List Int)) (inner := []) (ok := fun _ => True) (okp := fun _ => True) ?hr ?hp (fun _ hk => hk) trivial (Below.refl _ _) (Nat.le_refl _) (by simp) ?_; (case hd => rfl); (case hg => rfl); (case hr => first | (go_simp; done) | (go_simp; rfl)); (case hp => exact (Reps.none _ _)); intro v102 w6 ho7 hb hg_ hnew_; clear hg_ hnew_; (first | rw [← Ny101.out] at ho7 | (simp only [Int.reduceToNat] at ho7; rw [← Ny101.out] at ho7)); have HO103 := aL ho7 HB; replace HB := aB HB hb; clear hb ho7) | ((with_reducible refine gate_builtin (b := .append) (xs := #[.tmp 11, .tmp 12]) rfl ?_); at_builtin; refine Kd.R_append_rows (Kd.int .i64) (w0 := w) w.heap.size rfl (.tmp 11) (.tmp 12) 46 3 (.int .i64 0) 8 rfl Try.underlying46 info3 rfl (by decide) (by omega) v102 y101 l2 _ _ _ (fun _ => True) (fun _ => False) rfl rfl ?aO ?aR (fun _ _ h => h) (fun _ h => h.elim) ?aF ?aB ?aS ?aL ?_; (case aR => exact sW (Kd.C_below HR2.out HB.out)); (case aB => exact bB); (case aF => exact (fun _ _ => trivial)); (case aO => exact (aRw HO103)); (case aS => exact (below_size bB)); (case aL => have := LMc5.out; omega); intro v105 w8 ho hb hg hat; rw [← Ny104.out] at ho; replace HB := Aside0.mk hb; have HO106 := Aside0.mk ho; clear HO103; clear ho hb hg hat))
  go_loopg [9, 10] k (fun kq v9 v10 w' => ∃ (x9_1 : List Int) (x10_1 : Int), v10 = .int .i64 x10_1 ∧ Aside0 (ferruleref15_Explained.l0 kq l0 a1 a3 x9_1 x10_1 = some r) ∧ Aside0 (kq ≤ k) ∧ Aside0 (Kd.R (Kd.int .i64) 3 w' w.heap.size (fun _ => True) v9 x9_1) ∧ Aside0 (Below w.heap.size w w'))
  case atStart => exact ⟨(y104), (0), bS, H', ⟨Nat.le_refl _⟩, ⟨aRw HO106⟩, ⟨bB⟩⟩
  case round =>
   clear H'
   try clear c2
   try clear p2
   try clear c5
   try clear p6
   try clear c8
   obtain ⟨x9_1, x10_1, rfl, HA, HK1, HO_9, HB⟩ := hrel
   cases gk with
   | zero => exact absurd HA.out (by simp [ferruleref15_Explained.l0])
   | succ k1 =>
    have H := HA.out
    clear HA
    simp only [ferruleref15_Explained.l0] at H
    by_cases c9 : x10_1 < (wrap64 ((x9_1.length : Int) - a3))
    ·rw [if_pos c9] at H
     have c9b0 : decide (x10_1 < (wrap64 ((x9_1.length : Int) - a3))) = true := decide_eq_true c9
     clear c9
     replace H := Option.bind_eq_some_iff.mp H
     obtain ⟨t107, A100, H⟩ := H
     replace H : ((ferruleref15_Allowed.f k1 l0 a1 t107).bind fun t110 => (if (t110.length : Int) = 0 then ((ferruleref15_without.f x9_1 x10_1).bind fun t113 => (ferruleref15_Explained.l0 k1 l0 a1 a3 t113 x10_1)) else (ferruleref15_Explained.l0 k1 l0 a1 a3 x9_1 (wrap64 (x10_1 + 1))))) = some r := H
     have A10 := Aside0.mk A100
     clear A100
     replace H := Option.bind_eq_some_iff.mp H
     obtain ⟨t110, A110, H⟩ := H
     replace H : (if (t110.length : Int) = 0 then ((ferruleref15_without.f x9_1 x10_1).bind fun t113 => (ferruleref15_Explained.l0 k1 l0 a1 a3 t113 x10_1)) else (ferruleref15_Explained.l0 k1 l0 a1 a3 x9_1 (wrap64 (x10_1 + 1)))) = some r := H
     have A11 := Aside0.mk A110
     clear A110
     by_cases c12 : (t110.length : Int) = 0
     ·rw [if_pos c12] at H
      have c12b0 : ((t110.length : Int) == 0) = true := beq_iff_eq.mpr c12
      have c12b1 : ((t110.length : Int) != 0) = false := bne_eq_false_iff_eq.mpr c12
      clear c12
      replace H := Option.bind_eq_some_iff.mp H
      obtain ⟨t113, A130, H⟩ := H
      replace H : (ferruleref15_Explained.l0 k1 l0 a1 a3 t113 x10_1) = some r := H
      have A13 := Aside0.mk A130
      clear A130
      have H' := Aside0.mk H
      clear H
      obtain ⟨Ao14, co14, eo14⟩ := Kd.R_slice HO_9.out
      subst eo14
      go_wp2_with (first | ((with_reducible refine gate_callee (f := 102) rfl ?_); refine goesL_ (some 24) rfl rfl Try.func102 (by kernel_rfl) rfl #[.slice Ao14 x9_1.length co14, .int .i64 x10_1] rfl bM ?_; (with_reducible refine (ferruleref15_without.calls _ _ x9_1 x10_1 t107 _ ?side1 ?side2 A10.out).mono ?_); (case side1 => exact sW (Kd.R_reads' HO_9.out).2.2); (case side2 => exact (Kd.R_reads' HO_9.out).2.1); rintro e w15 ⟨v108, rfl, ho0, hb⟩; refine ⟨_, rfl, ?_⟩; have HO109 := aN ho0 HO_9 HB; replace HO_9 := aE HO_9 ho0 hb; replace HB := aB HB hb; (try clear hb); (try clear hb2); (try clear hk); (try clear hi); (try clear ho0); obtain ⟨Ao16, co16, eo16⟩ := Kd.R_slice HO109.out; subst eo16) | ((with_reducible refine gate_callee (f := 47) rfl ?_); refine goesL_ (some 25) rfl rfl Try.func47 (by kernel_rfl) rfl #[.slice A0 l0.length c0, .int .i64 a1, .slice Ao16 t107.length co16] rfl bM ?_; (with_reducible refine (ferruleref15_Allowed.calls k1 _ _ l0 a1 _ _ t107 t110 _ ?side1 ?side2 ?side3 ?side4 A11.out).mono ?_); (case side1 => exact sW (Kd.C_below HR0.out HB.out)); (case side2 => exact HC0.out); (case side3 => exact sW (Kd.R_reads' HO109.out).2.2); (case side4 => exact (Kd.R_reads' HO109.out).2.1); rintro e w17 ⟨v111, rfl, ho0, hb⟩; refine ⟨_, rfl, ?_⟩; have HO112 := Aside0.mk (Kd.R_lower (Kd.R_new' (Kd.R_new' ho0 (Kd.R_lt (aRw HO_9))) (Kd.R_lt (aRw HO109))) (below_size bB)); replace HO_9 := aE HO_9 ho0 hb; replace HO109 := aE HO109 ho0 hb; replace HB := aB HB hb; (try clear hb); (try clear hb2); (try clear hk); (try clear hi); (try clear ho0); obtain ⟨Ao18, co18, eo18⟩ := Kd.R_slice HO112.out; subst eo18) | ((with_reducible refine gate_callee (f := 102) rfl ?_); refine goesL_ (some 30) rfl rfl Try.func102 (by kernel_rfl) rfl #[.slice Ao14 x9_1.length co14, .int .i64 x10_1] rfl bM ?_; (with_reducible refine (ferruleref15_without.calls _ _ x9_1 x10_1 t113 _ ?side1 ?side2 A13.out).mono ?_); (case side1 => exact sW (Kd.R_reads' HO_9.out).2.2); (case side2 => exact (Kd.R_reads' HO_9.out).2.1); rintro e w19 ⟨v114, rfl, ho0, hb⟩; refine ⟨_, rfl, ?_⟩; have HO115 := Aside0.mk (Kd.R_lower (Kd.R_new' (Kd.R_new' (Kd.R_new' ho0 (Kd.R_lt (aRw HO_9))) (Kd.R_lt (aRw HO109))) (Kd.R_lt (aRw HO112))) (below_size bB)); replace HO_9 := aE HO_9 ho0 hb; replace HO109 := aE HO109 ho0 hb; replace HO112 := aE HO112 ho0 hb; replace HB := aB HB hb; (try clear hb); (try clear hb2); (try clear hk); (try clear hi); (try clear ho0)))
      go_roundg k1
      case measure => have := HK1.out; omega
      case rel => exact ⟨(t113), (x10_1), bS, H', ⟨by have := HK1.out; omega⟩, ⟨by (with_reducible repeat (first | apply Kd.R_alloc | apply Kd.R_drewN | apply Kd.R_drew)); exact Kd.R_mono HO115.out (fun _ hk => trivial)⟩, ⟨bB⟩⟩
     ·rw [if_neg c12] at H
      have c12b0 : ((t110.length : Int) == 0) = false := beq_eq_false_iff_ne.mpr c12
      have c12b1 : ((t110.length : Int) != 0) = true := bne_iff_ne.mpr c12
      have c12b2 : ¬ (t110 = []) := fun h_ => c12 (by rw [h_]; rfl)
      have H' := Aside0.mk H
      clear H
      obtain ⟨Ao20, co20, eo20⟩ := Kd.R_slice HO_9.out
      subst eo20
      go_wp2_with (first | ((with_reducible refine gate_callee (f := 102) rfl ?_); refine goesL_ (some 24) rfl rfl Try.func102 (by kernel_rfl) rfl #[.slice Ao20 x9_1.length co20, .int .i64 x10_1] rfl bM ?_; (with_reducible refine (ferruleref15_without.calls _ _ x9_1 x10_1 t107 _ ?side1 ?side2 A10.out).mono ?_); (case side1 => exact sW (Kd.R_reads' HO_9.out).2.2); (case side2 => exact (Kd.R_reads' HO_9.out).2.1); rintro e w21 ⟨v108, rfl, ho0, hb⟩; refine ⟨_, rfl, ?_⟩; have HO109 := aN ho0 HO_9 HB; replace HO_9 := aE HO_9 ho0 hb; replace HB := aB HB hb; (try clear hb); (try clear hb2); (try clear hk); (try clear hi); (try clear ho0); obtain ⟨Ao22, co22, eo22⟩ := Kd.R_slice HO109.out; subst eo22) | ((with_reducible refine gate_callee (f := 47) rfl ?_); refine goesL_ (some 25) rfl rfl Try.func47 (by kernel_rfl) rfl #[.slice A0 l0.length c0, .int .i64 a1, .slice Ao22 t107.length co22] rfl bM ?_; (with_reducible refine (ferruleref15_Allowed.calls k1 _ _ l0 a1 _ _ t107 t110 _ ?side1 ?side2 ?side3 ?side4 A11.out).mono ?_); (case side1 => exact sW (Kd.C_below HR0.out HB.out)); (case side2 => exact HC0.out); (case side3 => exact sW (Kd.R_reads' HO109.out).2.2); (case side4 => exact (Kd.R_reads' HO109.out).2.1); rintro e w23 ⟨v111, rfl, ho0, hb⟩; refine ⟨_, rfl, ?_⟩; have HO112 := Aside0.mk (Kd.R_lower (Kd.R_new' (Kd.R_new' ho0 (Kd.R_lt (aRw HO_9))) (Kd.R_lt (aRw HO109))) (below_size bB)); replace HO_9 := aE HO_9 ho0 hb; replace HO109 := aE HO109 ho0 hb; replace HB := aB HB hb; (try clear hb); (try clear hb2); (try clear hk); (try clear hi); (try clear ho0); obtain ⟨Ao24, co24, eo24⟩ := Kd.R_slice HO112.out; subst eo24))
      go_roundg k1
      case measure => have := HK1.out; omega
      case rel => exact ⟨(x9_1), (wrap64 (x10_1 + 1)), bS, H', ⟨by have := HK1.out; omega⟩, ⟨by (with_reducible repeat (first | apply Kd.R_alloc | apply Kd.R_drewN | apply Kd.R_drew)); exact Kd.R_mono HO_9.out (fun _ hk => trivial)⟩, ⟨bB⟩⟩
    ·rw [if_neg c9] at H
     have c9b0 : decide (x10_1 < (wrap64 ((x9_1.length : Int) - a3))) = false := decide_eq_false c9
     clear c9
     obtain rfl := Option.some.inj H
     obtain ⟨Ao25, co25, eo25⟩ := Kd.R_slice HO_9.out
     subst eo25
     go_wp2
     go_ret
     exact ⟨_, by first | rfl | (simp [errW_none, errW_some] <;> rfl) | (simp [*, errW_none, errW_some] <;> rfl), aRw HO_9, bB⟩
 ·rw [if_neg c5] at H
  exact absurd H (by simp)

end Go.Proofs.Ytcebjhbphcoboaa.X
