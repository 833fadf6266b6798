-- Written by a program of this session (wip/xp), out of the translation. Not trusted: Lean checks it.
import Derived.Test.YtohgjbkiemnfnaaR0
import Derived.Test.YtohgjbkiemnfnaaRn37
import Derived.Test.YtohgjbkiemnfnaaRn34
import Derived.Test.YtohgjbkiemnfnaaRn85
-- shrunk
namespace Go.Proofs.Ytohgjbkiemnfnaa.R
open Go.RowKit Go.Proofs.YtohgjbkiemnfnaaW.PrintWords Go.Proofs.YtohgjbkiemnfnaaW.PrintLast Go.Proofs.YtohgjbkiemnfnaaW.PrintMore
attribute [local go_sem] Lab.str_gtr Lab.str_leq Lab.str_geq max2_int min2_int max_two min_two max_three min_three max_four min_four   -- for this text's walks alone
set_option linter.unusedVariables false
set_option linter.unusedSimpArgs false

/-! ### ferruleref22_Units: function 52 -/
def ferruleref22_Units.j0 : Nat → List (List Int) → List Int → Bool → Option (List Int × Bool)
 | 0, _, _, _ => none
 | k + 1, x0, x6, x20 => if x20 = true then (some (([] : List Int), false)) else ((ferruleref17_Close.f k x0 x6).bind fun bt106 => (if bt106.2 = true then ((ferruleref12_Clean.f k bt106.1).bind fun bt110 => (some (bt110.1, true))) else (some (([] : List Int), false))))
def ferruleref22_Units.f (k : Nat) (l0 : List (List Int)) (l1 : List Int) : Option (List Int × Bool) := (ferruleref12_Clean.f k l1).bind fun bt101 => (if bt101.2 = true then (ferruleref22_Units.j0 k l0 bt101.1 true) else ((ferruleref12_Good.f k l1 16777216).bind fun t105 => (ferruleref22_Units.j0 k l0 bt101.1 (!t105))))
theorem ferruleref22_Units.mono_l : ∀ k, (∀ y0 y1 y2, LeO (ferruleref22_Units.j0 k y0 y1 y2) (ferruleref22_Units.j0 (k + 1) y0 y1 y2))
 | 0 => fun _ _ _ r h => by simp [ferruleref22_Units.j0] at h
 | k + 1 => by
  have ih0 := ferruleref22_Units.mono_l k
  ·intro y0 y1 y2
   unfold ferruleref22_Units.j0
   repeat' first
   | (with_reducible exact ih0 _ _ _)
   | (with_reducible exact ferruleref12_Clean.mono _ _)
   | (with_reducible exact ferruleref12_Good.mono _ _ _)
   | (with_reducible exact ferruleref17_Close.mono _ _ _)
   | (with_reducible exact LeO.refl _)
   | (with_reducible exact LeO.none _)
   | (with_reducible refine LeO.ite ?_ ?_)
   | (with_reducible refine LeO.bind ?_ (fun _ => ?_))
   | exact ih0 _ _ _
   | exact ferruleref12_Clean.mono _ _
   | exact ferruleref12_Good.mono _ _ _
   | exact ferruleref17_Close.mono _ _ _
   | exact LeO.none _
   | refine LeO.ite ?_ ?_
   | refine LeO.bind ?_ (fun _ => ?_)
theorem ferruleref22_Units.mono : ∀ a0 a1 k, LeO (ferruleref22_Units.f k a0 a1) (ferruleref22_Units.f (k + 1) a0 a1) := by
 intro a0 a1 k
 have ih0 := ferruleref22_Units.mono_l k
 unfold ferruleref22_Units.f
 repeat' first
   | (with_reducible exact ih0 _ _ _)
   | (with_reducible exact ferruleref12_Clean.mono _ _)
   | (with_reducible exact ferruleref12_Good.mono _ _ _)
   | (with_reducible exact ferruleref17_Close.mono _ _ _)
   | (with_reducible exact LeO.refl _)
   | (with_reducible exact LeO.none _)
   | (with_reducible refine LeO.ite ?_ ?_)
   | (with_reducible refine LeO.bind ?_ (fun _ => ?_))
   | exact ih0 _ _ _
   | exact ferruleref12_Clean.mono _ _
   | exact ferruleref12_Good.mono _ _ _
   | exact ferruleref17_Close.mono _ _ _
   | exact LeO.none _
   | refine LeO.ite ?_ ?_
   | refine LeO.bind ?_ (fun _ => ?_)
set_option maxHeartbeats 8000000 in
set_option maxRecDepth 100000 in
theorem ferruleref22_Units.calls (k : Nat) (A0 : Option Addr) (c0 : Nat) (l0 : List (List Int)) (A1 : Option Addr) (c1 : Nat) (l1 : List Int) (r1 : List Int) (r2 : Bool) (w : World) (hr0 : Kd.C (Kd.slice 3 (Kd.int .i64)) w A0 l0.length l0) (hc0 : l0.length ≤ c0) (hr1 : Kd.C (Kd.int .i64) w A1 l1.length l1) (hc1 : l1.length ≤ c1) (h : ferruleref22_Units.f k l0 l1 = some (r1, r2)) :
  Calls Try.prog 52 #[.slice A0 l0.length c0, .slice A1 l1.length c1] w fun e w' => ∃ v0_ : Value, e = .returned (.tuple #[v0_, .bool r2]) ∧ Kd.R (Kd.int .i64) 3 w' w.heap.size (fun _ => True) v0_ r1 ∧ Below w.heap.size w w' := by
 have HR0 := Aside0.mk hr0
 have HC0 := Aside0.mk hc0
 clear hr0 hc0
 have HR1 := Aside0.mk hr1
 have HC1 := Aside0.mk hc1
 clear hr1 hc1
 have HB := Aside0.mk (Below.refl w.heap.size w)
 have H : ((ferruleref12_Clean.f k l1).bind fun bt101 => (if bt101.2 = true then (ferruleref22_Units.j0 k l0 bt101.1 true) else ((ferruleref12_Good.f k l1 16777216).bind fun t105 => (ferruleref22_Units.j0 k l0 bt101.1 (!t105))))) = some (r1, r2) := h
 clear h
 replace H := Option.bind_eq_some_iff.mp H
 obtain ⟨⟨t101, t102⟩, A30, H⟩ := H
 replace H : (if t102 = true then (ferruleref22_Units.j0 k l0 t101 true) else ((ferruleref12_Good.f k l1 16777216).bind fun t105 => (ferruleref22_Units.j0 k l0 t101 (!t105)))) = some (r1, r2) := H
 have A3 := Aside0.mk A30
 clear A30
 have HC4 := Aside0.mk H
 clear H
 go_enter Try.func52, Try.ntmps52
 go_upto_region 2 with (first | ((with_reducible refine gate_callee (f := 34) rfl ?_); refine goesL_ (some 12) rfl rfl Try.func34 (by kernel_rfl) rfl #[.slice A1 l1.length c1] rfl bM ?_; (with_reducible refine (ferruleref12_Clean.calls k _ _ l1 t101 t102 _ ?side1 ?side2 A3.out).mono ?_); (case side1 => repeat (first | exact HR1.out | (with_reducible refine Kd.C_alloc ?_ _) | (with_reducible refine Kd.C_drewN ?_ _) | (with_reducible refine Kd.C_drew ?_))); (case side2 => exact HC1.out); rintro e w5 ⟨v103, rfl, ho0, hb⟩; refine ⟨_, rfl, ?_⟩; have HO104 := aL ho0 HB; replace HB := aB HB hb; (try clear hb); (try clear hb2); (try clear hk); (try clear hi); (try clear ho0)))
 (try simp only [Act.put, List.setIfInBounds_toArray, List.set_cons_zero, List.set_cons_succ])
 go_cut [20] (fun v20 wc => ∃ (kq : Nat) (x20_3 : Bool), v20 = .bool x20_3 ∧ Aside0 (ferruleref22_Units.j0 kq l0 t101 x20_3 = some (r1, r2)) ∧ Aside0 (kq ≤ k) ∧ Aside0 (Kd.R (Kd.int .i64) 3 wc w.heap.size (fun _ => True) v103 t101) ∧ Aside0 (Below w.heap.size w wc))
 case first =>
  have H := HC4.out
  clear HC4
  by_cases c6 : t102 = true
  ·subst c6
   have H1 : (ferruleref22_Units.j0 k l0 t101 true) = some (r1, r2) := by rw [if_pos rfl] at H; exact H
   clear H
   have H := H1
   clear H1
   have H' := Aside0.mk H
   clear H
   go_wp2
   go_meet
   case rel => exact ⟨_, (true), bS, H', ⟨by first | omega | exact Nat.le_refl _⟩, ⟨aRw HO104⟩, ⟨bB⟩⟩
  ·replace c6 := Bool.eq_false_iff.mpr c6
   subst c6
   have H1 : ((ferruleref12_Good.f k l1 16777216).bind fun t105 => (ferruleref22_Units.j0 k l0 t101 (!t105))) = some (r1, r2) := by rw [if_neg (show ¬ (false = true) by decide)] at H; exact H
   clear H
   have H := H1
   clear H1
   replace H := Option.bind_eq_some_iff.mp H
   obtain ⟨t105, A70, H⟩ := H
   replace H : (ferruleref22_Units.j0 k l0 t101 (!t105)) = some (r1, r2) := H
   have A7 := Aside0.mk A70
   clear A70
   have H' := Aside0.mk H
   clear H
   go_wp2_with (first | (go_at_call 37; (with_reducible refine (ferruleref12_Good.calls k _ _ l1 16777216 t105 _ ?side1 ?side2 A7.out).mono ?_); (case side1 => exact sW (Kd.C_below HR1.out HB.out)); (case side2 => exact HC1.out); rintro e w' ⟨rfl, ⟨nd, rfl⟩⟩))
   go_meet
   case rel => exact ⟨_, (!t105), bS, H', ⟨by first | omega | exact Nat.le_refl _⟩, ⟨aRw HO104⟩, ⟨bB⟩⟩
 case rest =>
  clear HC4
  try clear c1
  try clear p2
  try clear c3
  try clear c5
  try clear c6
  try clear p6
  obtain ⟨kq, x20_3, rfl, HA, HJ3, HO_6, HB⟩ := hcut
  cases kq with
  | zero => exact absurd HA.out (by simp [ferruleref22_Units.j0])
  | succ kj3 =>
   have H := HA.out
   clear HA
   simp only [ferruleref22_Units.j0] at H
   by_cases c8 : x20_3 = true
   ·subst c8
    have H1 : (some (([] : List Int), false)) = some (r1, r2) := by rw [if_pos rfl] at H; exact H
    clear H
    have H := H1
    clear H1
    simp only [Option.some.injEq, Prod.mk.injEq] at H
    obtain ⟨rfl, rfl⟩ := H
    go_wp2
    go_ret2
    exact ⟨_, by first | rfl | (simp [errW_none, errW_some] <;> rfl) | (simp [*, errW_none, errW_some] <;> rfl), by first | exact Kd.R_nil _ _ _ _ _ | exact Kd.N_nil _ _ _ _ _ | exact Kd.V_nil _ _ _ _ _ | exact Kd.Q_nil _ _ _ _ _ | exact Kd.S_nil _ _ _ _ _, bB⟩
   ·replace c8 := Bool.eq_false_iff.mpr c8
    subst c8
    have H1 : ((ferruleref17_Close.f kj3 l0 t101).bind fun bt106 => (if bt106.2 = true then ((ferruleref12_Clean.f kj3 bt106.1).bind fun bt110 => (some (bt110.1, true))) else (some (([] : List Int), false)))) = some (r1, r2) := by rw [if_neg (show ¬ (false = true) by decide)] at H; exact H
    clear H
    have H := H1
    clear H1
    replace H := Option.bind_eq_some_iff.mp H
    obtain ⟨⟨t106, t107⟩, A90, H⟩ := H
    replace H : (if t107 = true then ((ferruleref12_Clean.f kj3 t106).bind fun bt110 => (some (bt110.1, true))) else (some (([] : List Int), false))) = some (r1, r2) := H
    have A9 := Aside0.mk A90
    clear A90
    by_cases c10 : t107 = true
    ·subst c10
     have H1 : ((ferruleref12_Clean.f kj3 t106).bind fun bt110 => (some (bt110.1, true))) = some (r1, r2) := by rw [if_pos rfl] at H; exact H
     clear H
     have H := H1
     clear H1
     replace H := Option.bind_eq_some_iff.mp H
     obtain ⟨⟨t110, t111⟩, A110, H⟩ := H
     replace H : (some (t110, true)) = some (r1, r2) := H
     have A11 := Aside0.mk A110
     clear A110
     simp only [Option.some.injEq, Prod.mk.injEq] at H
     obtain ⟨rfl, rfl⟩ := H
     obtain ⟨Ao12, co12, eo12⟩ := Kd.R_slice HO_6.out
     subst eo12
     go_wp2_with (first | ((with_reducible refine gate_callee (f := 85) rfl ?_); refine goesL_ (some 24) rfl rfl Try.func85 (by kernel_rfl) rfl #[.slice A0 l0.length c0, .slice Ao12 t101.length co12] rfl bM ?_; (with_reducible refine (ferruleref17_Close.calls kj3 _ _ l0 _ _ t101 t106 true _ ?side1 ?side2 ?side3 ?side4 A9.out).mono ?_); (case side1 => exact sW (Kd.C_below HR0.out HB.out)); (case side2 => exact HC0.out); (case side3 => exact sW (Kd.R_reads' HO_6.out).2.2); (case side4 => exact (Kd.R_reads' HO_6.out).2.1); rintro e w13 ⟨v108, rfl, ho0, hb⟩; refine ⟨_, rfl, ?_⟩; have HO109 := aN ho0 HO_6 HB; replace HO_6 := aE HO_6 ho0 hb; replace HB := aB HB hb; (try clear hb); (try clear hb2); (try clear hk); (try clear hi); (try clear ho0); obtain ⟨Ao14, co14, eo14⟩ := Kd.R_slice HO109.out; subst eo14) | ((with_reducible refine gate_callee (f := 34) rfl ?_); refine goesL_ (some 31) rfl rfl Try.func34 (by kernel_rfl) rfl #[.slice Ao14 t106.length co14] rfl bM ?_; (with_reducible refine (ferruleref12_Clean.calls kj3 _ _ t106 t110 t111 _ ?side1 ?side2 A11.out).mono ?_); (case side1 => exact sW (Kd.R_reads' HO109.out).2.2); (case side2 => exact (Kd.R_reads' HO109.out).2.1); rintro e w15 ⟨v112, rfl, ho0, hb⟩; refine ⟨_, rfl, ?_⟩; have HO113 := Aside0.mk (Kd.R_lower (Kd.R_new' (Kd.R_new' ho0 (Kd.R_lt (aRw HO_6))) (Kd.R_lt (aRw HO109))) (below_size bB)); replace HO_6 := aE HO_6 ho0 hb; replace HO109 := aE HO109 ho0 hb; replace HB := aB HB hb; (try clear hb); (try clear hb2); (try clear hk); (try clear hi); (try clear ho0)))
     go_ret2
     exact ⟨_, by first | rfl | (simp [errW_none, errW_some] <;> rfl) | (simp [*, errW_none, errW_some] <;> rfl), by (with_reducible repeat (first | apply Kd.R_alloc | apply Kd.R_drewN | apply Kd.R_drew)); exact Kd.R_mono HO113.out (fun _ hk => trivial), bB⟩
    ·replace c10 := Bool.eq_false_iff.mpr c10
     subst c10
     have H1 : (some (([] : List Int), false)) = some (r1, r2) := by rw [if_neg (show ¬ (false = true) by decide)] at H; exact H
     clear H
     have H := H1
     clear H1
     simp only [Option.some.injEq, Prod.mk.injEq] at H
     obtain ⟨rfl, rfl⟩ := H
     obtain ⟨Ao16, co16, eo16⟩ := Kd.R_slice HO_6.out
     subst eo16
     go_wp2_with (first | ((with_reducible refine gate_callee (f := 85) rfl ?_); refine goesL_ (some 24) rfl rfl Try.func85 (by kernel_rfl) rfl #[.slice A0 l0.length c0, .slice Ao16 t101.length co16] rfl bM ?_; (with_reducible refine (ferruleref17_Close.calls kj3 _ _ l0 _ _ t101 t106 false _ ?side1 ?side2 ?side3 ?side4 A9.out).mono ?_); (case side1 => exact sW (Kd.C_below HR0.out HB.out)); (case side2 => exact HC0.out); (case side3 => exact sW (Kd.R_reads' HO_6.out).2.2); (case side4 => exact (Kd.R_reads' HO_6.out).2.1); rintro e w17 ⟨v108, rfl, ho0, hb⟩; refine ⟨_, rfl, ?_⟩; have HO109 := aN ho0 HO_6 HB; replace HO_6 := aE HO_6 ho0 hb; replace HB := aB HB hb; (try clear hb); (try clear hb2); (try clear hk); (try clear hi); (try clear ho0)))
     go_ret2
     exact ⟨_, by first | rfl | (simp [errW_none, errW_some] <;> rfl) | (simp [*, errW_none, errW_some] <;> rfl), by first | exact Kd.R_nil _ _ _ _ _ | exact Kd.N_nil _ _ _ _ _ | exact Kd.V_nil _ _ _ _ _ | exact Kd.Q_nil _ _ _ _ _ | exact Kd.S_nil _ _ _ _ _, bB⟩

end Go.Proofs.Ytohgjbkiemnfnaa.R
