-- Written by a program of this session (wip/xp), out of the translation. Not trusted: Lean checks it.
import Derived.Test.YtaocceijkiiciaaX0
import Derived.Test.YtaocceijkiiciaaXn9
import Derived.Test.YtaocceijkiiciaaXn8
import Derived.Test.YtaocceijkiiciaaXn10
-- shrunk
namespace Go.Proofs.Ytaocceijkiiciaa.X
open Go.RowKit Go.Proofs.YtaocceijkiiciaaW.PrintWords Go.Proofs.YtaocceijkiiciaaW.PrintLast Go.Proofs.YtaocceijkiiciaaW.PrintMore
attribute [local go_sem] Lab.str_gtr Lab.str_leq Lab.str_geq max2_int min2_int max_two min_two max_three min_three max_four min_four   -- for this text's walks alone
set_option linter.unusedVariables false
set_option linter.unusedSimpArgs false

/-! ### ferrulelaw20_HintRound: function 3 -/
def ferrulelaw20_HintRound.j0 : Nat → List Int → List Bool → Int → Bool → Option (Bool)
 | 0, _, _, _, _ => none
 | k + 1, x0, x1, x2, x17 => if x17 = true then (some true) else ((hint_At.f x0 (Int.tmod (wrap64 (x2)) 10000)).bind fun t102 => ((hint_At.f x0 (wrap64 ((Int.tmod (wrap64 (x2)) 10000) + (x0.length : Int)))).bind fun t103 => (if t102 = t103 then ((hint_Sign.f x1 (Int.tmod (wrap64 (x2)) 10000)).bind fun t104 => ((hint_Sign.f x1 (wrap64 ((Int.tmod (wrap64 (x2)) 10000) + (x1.length : Int)))).bind fun t105 => (some (t104 == t105)))) else (some false))))
def ferrulelaw20_HintRound.f (k : Nat) (l0 : List Int) (l1 : List Bool) (a2 : Int) : Option (Bool) := (ferrulelaw20_awake.f).bind fun t101 => (if t101 = true then (if (l0.length : Int) > 60 then (ferrulelaw20_HintRound.j0 k l0 l1 a2 true) else (ferrulelaw20_HintRound.j0 k l0 l1 a2 (decide ((l1.length : Int) > 60)))) else (some false))
theorem ferrulelaw20_HintRound.mono_l : ∀ k, (∀ y0 y1 y2 y3, LeO (ferrulelaw20_HintRound.j0 k y0 y1 y2 y3) (ferrulelaw20_HintRound.j0 (k + 1) y0 y1 y2 y3))
 | 0 => fun _ _ _ _ r h => by simp [ferrulelaw20_HintRound.j0] at h
 | k + 1 => by
  have ih0 := ferrulelaw20_HintRound.mono_l k
  ·intro y0 y1 y2 y3
   unfold ferrulelaw20_HintRound.j0
   repeat' first
   | (with_reducible exact ih0 _ _ _ _)
   | (with_reducible exact LeO.refl _)
   | (with_reducible exact LeO.none _)
   | (with_reducible refine LeO.ite ?_ ?_)
   | (with_reducible refine LeO.bind ?_ (fun _ => ?_))
   | exact ih0 _ _ _ _
   | exact LeO.none _
   | refine LeO.ite ?_ ?_
   | refine LeO.bind ?_ (fun _ => ?_)
theorem ferrulelaw20_HintRound.mono : ∀ a0 a1 a2 k, LeO (ferrulelaw20_HintRound.f k a0 a1 a2) (ferrulelaw20_HintRound.f (k + 1) a0 a1 a2) := by
 intro a0 a1 a2 k
 have ih0 := ferrulelaw20_HintRound.mono_l k
 unfold ferrulelaw20_HintRound.f
 repeat' first
   | (with_reducible exact ih0 _ _ _ _)
   | (with_reducible exact LeO.refl _)
   | (with_reducible exact LeO.none _)
   | (with_reducible refine LeO.ite ?_ ?_)
   | (with_reducible refine LeO.bind ?_ (fun _ => ?_))
   | exact ih0 _ _ _ _
   | exact LeO.none _
   | refine LeO.ite ?_ ?_
   | refine LeO.bind ?_ (fun _ => ?_)
set_option maxHeartbeats 8000000 in
set_option maxRecDepth 100000 in
theorem ferrulelaw20_HintRound.calls (k : Nat) (A0 : Option Addr) (c0 : Nat) (l0 : List Int) (A1 : Option Addr) (c1 : Nat) (l1 : List Bool) (a2 : Int) (r : Bool) (w : World) (hr0 : Kd.C (Kd.int .i64) w A0 l0.length l0) (hc0 : l0.length ≤ c0) (hr1 : Kd.C Kd.bool w A1 l1.length l1) (hc1 : l1.length ≤ c1) (h : ferrulelaw20_HintRound.f k l0 l1 a2 = some r) :
  Calls Try.prog 3 #[.slice A0 l0.length c0, .slice A1 l1.length c1, .int .u16 a2] w fun e w' => e = .returned (.bool r) ∧ Below w.heap.size w w' := by
 have HR0 := Aside0.mk hr0
 have HC0 := Aside0.mk hc0
 clear hr0 hc0
 have HR1 := Aside0.mk hr1
 have HC1 := Aside0.mk hc1
 clear hr1 hc1
 have HB := Aside0.mk (Below.refl w.heap.size w)
 have H : ((ferrulelaw20_awake.f).bind fun t101 => (if t101 = true then (if (l0.length : Int) > 60 then (ferrulelaw20_HintRound.j0 k l0 l1 a2 true) else (ferrulelaw20_HintRound.j0 k l0 l1 a2 (decide ((l1.length : Int) > 60)))) else (some false))) = some r := h
 clear h
 replace H := Option.bind_eq_some_iff.mp H
 obtain ⟨t101, A40, H⟩ := H
 replace H : (if t101 = true then (if (l0.length : Int) > 60 then (ferrulelaw20_HintRound.j0 k l0 l1 a2 true) else (ferrulelaw20_HintRound.j0 k l0 l1 a2 (decide ((l1.length : Int) > 60)))) else (some false)) = some r := H
 have A4 := Aside0.mk A40
 clear A40
 by_cases c5 : t101 = true
 ·subst c5
  have H1 : (if (l0.length : Int) > 60 then (ferrulelaw20_HintRound.j0 k l0 l1 a2 true) else (ferrulelaw20_HintRound.j0 k l0 l1 a2 (decide ((l1.length : Int) > 60)))) = some r := by rw [if_pos rfl] at H; exact H
  clear H
  have H := H1
  clear H1
  have HC6 := Aside0.mk H
  clear H
  go_enter Try.func3, Try.ntmps3
  go_upto_region 3 with (first | ((with_reducible refine gate_callee (f := 8) rfl ?_); refine goesL_ (some 8) rfl rfl Try.func8 (by kernel_rfl) rfl #[] rfl bM ?_; (with_reducible refine (ferrulelaw20_awake.calls  true _ A4.out).mono ?_); rintro e w7 ⟨rfl, hb⟩; refine ⟨_, rfl, ?_⟩; replace HB := aB HB hb; (try clear hb); (try clear hb2); (try clear hk); (try clear hi)))
  (try simp only [Act.put, List.setIfInBounds_toArray, List.set_cons_zero, List.set_cons_succ])
  go_cut [17] (fun v17 wc => ∃ (kq : Nat) (x17_5 : Bool), v17 = .bool x17_5 ∧ Aside0 (ferrulelaw20_HintRound.j0 kq l0 l1 a2 x17_5 = some r) ∧ Aside0 (kq ≤ k) ∧ Aside0 (Below w.heap.size w wc))
  case first =>
   have H := HC6.out
   clear HC6
   by_cases c8 : (l0.length : Int) > 60
   ·rw [if_pos c8] at H
    have c8b0 : decide (60 < (l0.length : Int)) = true := decide_eq_true c8
    have c8b1 : decide (60 < l0.length) = true := decide_eq_true (by omega)
    clear c8
    (first | rw [c8b0] | (simp only [i64_w, i32_w]; rw [c8b0]) | skip)
    have H' := Aside0.mk H
    clear H
    go_wp2
    go_meet
    case rel => exact ⟨_, (true), bS, H', ⟨by first | omega | exact Nat.le_refl _⟩, ⟨bB⟩⟩
   ·rw [if_neg c8] at H
    have c8b0 : decide (60 < (l0.length : Int)) = false := decide_eq_false c8
    have c8b1 : decide (60 < l0.length) = false := decide_eq_false (by omega)
    clear c8
    (first | rw [c8b0] | (simp only [i64_w, i32_w]; rw [c8b0]) | skip)
    have H' := Aside0.mk H
    clear H
    go_wp2
    go_meet
    case rel => exact ⟨_, (decide ((l1.length : Int) > 60)), bS, H', ⟨by first | omega | exact Nat.le_refl _⟩, ⟨bB⟩⟩
  case rest =>
   clear HC6
   try clear c1
   try clear p2
   try clear c3
   try clear c5
   try clear p6
   try clear c8
   try clear c8b0
   try clear c8b1
   obtain ⟨kq, x17_5, rfl, HA, HJ5, HB⟩ := hcut
   cases kq with
   | zero => exact absurd HA.out (by simp [ferrulelaw20_HintRound.j0])
   | succ kj5 =>
    have H := HA.out
    clear HA
    simp only [ferrulelaw20_HintRound.j0] at H
    by_cases c9 : x17_5 = true
    ·subst c9
     have H1 : (some true) = some r := by rw [if_pos rfl] at H; exact H
     clear H
     have H := H1
     clear H1
     obtain rfl := Option.some.inj H
     go_wp2
     go_ret
     exact ⟨by first | rfl | (simp [errW_none, errW_some] <;> rfl) | (simp [*, errW_none, errW_some] <;> rfl), bB⟩
    ·replace c9 := Bool.eq_false_iff.mpr c9
     subst c9
     have H1 : ((hint_At.f l0 (Int.tmod (wrap64 (a2)) 10000)).bind fun t102 => ((hint_At.f l0 (wrap64 ((Int.tmod (wrap64 (a2)) 10000) + (l0.length : Int)))).bind fun t103 => (if t102 = t103 then ((hint_Sign.f l1 (Int.tmod (wrap64 (a2)) 10000)).bind fun t104 => ((hint_Sign.f l1 (wrap64 ((Int.tmod (wrap64 (a2)) 10000) + (l1.length : Int)))).bind fun t105 => (some (t104 == t105)))) else (some false)))) = some r := by rw [if_neg (show ¬ (false = true) by decide)] at H; exact H
     clear H
     have H := H1
     clear H1
     replace H := Option.bind_eq_some_iff.mp H
     obtain ⟨t102, A100, H⟩ := H
     replace H : ((hint_At.f l0 (wrap64 ((Int.tmod (wrap64 (a2)) 10000) + (l0.length : Int)))).bind fun t103 => (if t102 = t103 then ((hint_Sign.f l1 (Int.tmod (wrap64 (a2)) 10000)).bind fun t104 => ((hint_Sign.f l1 (wrap64 ((Int.tmod (wrap64 (a2)) 10000) + (l1.length : Int)))).bind fun t105 => (some (t104 == t105)))) else (some false))) = some r := H
     have A10 := Aside0.mk A100
     clear A100
     replace H := Option.bind_eq_some_iff.mp H
     obtain ⟨t103, A110, H⟩ := H
     replace H : (if t102 = t103 then ((hint_Sign.f l1 (Int.tmod (wrap64 (a2)) 10000)).bind fun t104 => ((hint_Sign.f l1 (wrap64 ((Int.tmod (wrap64 (a2)) 10000) + (l1.length : Int)))).bind fun t105 => (some (t104 == t105)))) else (some false)) = some r := H
     have A11 := Aside0.mk A110
     clear A110
     by_cases c12 : t102 = t103
     ·rw [if_pos c12] at H
      have c12b0 : (t102 == t103) = true := beq_iff_eq.mpr c12
      have c12b1 : (t102 != t103) = false := bne_eq_false_iff_eq.mpr c12
      clear c12
      replace H := Option.bind_eq_some_iff.mp H
      obtain ⟨t104, A130, H⟩ := H
      replace H : ((hint_Sign.f l1 (wrap64 ((Int.tmod (wrap64 (a2)) 10000) + (l1.length : Int)))).bind fun t105 => (some (t104 == t105))) = some r := H
      have A13 := Aside0.mk A130
      clear A130
      replace H := Option.bind_eq_some_iff.mp H
      obtain ⟨t105, A140, H⟩ := H
      replace H : (some (t104 == t105)) = some r := H
      have A14 := Aside0.mk A140
      clear A140
      obtain rfl := Option.some.inj H
      go_wp2_with (first | ((with_reducible refine gate_callee (f := 9) rfl ?_); refine goesL_ (some 23) rfl rfl Try.func9 (by kernel_rfl) rfl #[.slice A0 l0.length c0, .int .i64 (Int.tmod (wrap64 (a2)) 10000)] rfl bM ?_; (with_reducible refine (hint_At.calls _ _ l0 (Int.tmod (wrap64 (a2)) 10000) t102 _ ?side1 ?side2 A10.out).mono ?_); (case side1 => exact sW (Kd.C_below HR0.out HB.out)); (case side2 => exact HC0.out); rintro e w' ⟨rfl, ⟨nd, rfl⟩⟩; refine ⟨_, rfl, ?_⟩) | ((with_reducible refine gate_callee (f := 9) rfl ?_); refine goesL_ (some 29) rfl rfl Try.func9 (by kernel_rfl) rfl #[.slice A0 l0.length c0, .int .i64 (wrap64 ((Int.tmod (wrap64 (a2)) 10000) + (l0.length : Int)))] rfl bM ?_; (with_reducible refine (hint_At.calls _ _ l0 (wrap64 ((Int.tmod (wrap64 (a2)) 10000) + (l0.length : Int))) t103 _ ?side1 ?side2 A11.out).mono ?_); (case side1 => exact sW (Kd.C_below HR0.out bB)); (case side2 => exact HC0.out); rintro e w' ⟨rfl, ⟨nd, rfl⟩⟩; refine ⟨_, rfl, ?_⟩) | (go_at_call 10; (with_reducible refine (hint_Sign.calls _ _ l1 (Int.tmod (wrap64 (a2)) 10000) t104 _ ?side1 ?side2 A13.out).mono ?_); (case side1 => exact sW (Kd.C_below HR1.out bB)); (case side2 => exact HC1.out); rintro e w' ⟨rfl, ⟨nd, rfl⟩⟩) | (go_at_call 10; (with_reducible refine (hint_Sign.calls _ _ l1 (wrap64 ((Int.tmod (wrap64 (a2)) 10000) + (l1.length : Int))) t105 _ ?side1 ?side2 A14.out).mono ?_); (case side1 => exact sW (Kd.C_below HR1.out bB)); (case side2 => exact HC1.out); rintro e w' ⟨rfl, ⟨nd, rfl⟩⟩))
      go_ret
      exact ⟨by first | rfl | (simp [errW_none, errW_some] <;> rfl) | (simp [*, errW_none, errW_some] <;> rfl), bB⟩
     ·rw [if_neg c12] at H
      have c12b0 : (t102 == t103) = false := beq_eq_false_iff_ne.mpr c12
      have c12b1 : (t102 != t103) = true := bne_iff_ne.mpr c12
      obtain rfl := Option.some.inj H
      go_wp2_with (first | ((with_reducible refine gate_callee (f := 9) rfl ?_); refine goesL_ (some 23) rfl rfl Try.func9 (by kernel_rfl) rfl #[.slice A0 l0.length c0, .int .i64 (Int.tmod (wrap64 (a2)) 10000)] rfl bM ?_; (with_reducible refine (hint_At.calls _ _ l0 (Int.tmod (wrap64 (a2)) 10000) t102 _ ?side1 ?side2 A10.out).mono ?_); (case side1 => exact sW (Kd.C_below HR0.out HB.out)); (case side2 => exact HC0.out); rintro e w' ⟨rfl, ⟨nd, rfl⟩⟩; refine ⟨_, rfl, ?_⟩) | ((with_reducible refine gate_callee (f := 9) rfl ?_); refine goesL_ (some 29) rfl rfl Try.func9 (by kernel_rfl) rfl #[.slice A0 l0.length c0, .int .i64 (wrap64 ((Int.tmod (wrap64 (a2)) 10000) + (l0.length : Int)))] rfl bM ?_; (with_reducible refine (hint_At.calls _ _ l0 (wrap64 ((Int.tmod (wrap64 (a2)) 10000) + (l0.length : Int))) t103 _ ?side1 ?side2 A11.out).mono ?_); (case side1 => exact sW (Kd.C_below HR0.out bB)); (case side2 => exact HC0.out); rintro e w' ⟨rfl, ⟨nd, rfl⟩⟩; refine ⟨_, rfl, ?_⟩))
      go_ret
      exact ⟨by first | rfl | (simp [errW_none, errW_some] <;> rfl) | (simp [*, errW_none, errW_some] <;> rfl), bB⟩
 ·replace c5 := Bool.eq_false_iff.mpr c5
  subst c5
  have H1 : (some false) = some r := by rw [if_neg (show ¬ (false = true) by decide)] at H; exact H
  clear H
  have H := H1
  clear H1
  obtain rfl := Option.some.inj H
  go_enter Try.func3, Try.ntmps3
  go_wp2_with (first | ((with_reducible refine gate_callee (f := 8) rfl ?_); refine goesL_ (some 8) rfl rfl Try.func8 (by kernel_rfl) rfl #[] rfl bM ?_; (with_reducible refine (ferrulelaw20_awake.calls  false _ A4.out).mono ?_); rintro e w15 ⟨rfl, hb⟩; refine ⟨_, rfl, ?_⟩; replace HB := aB HB hb; (try clear hb); (try clear hb2); (try clear hk); (try clear hi)))
  go_ret
  exact ⟨by first | rfl | (simp [errW_none, errW_some] <;> rfl) | (simp [*, errW_none, errW_some] <;> rfl), bB⟩

def ferrulelaw20_HintRound.Pure : Prop := ∀ (l0 : List Int) (l1 : List Bool) (a2 : Int), l0.length ≤ maxLen → (∀ x ∈ l0, (Lit.int .i64 x).wf = true) → (fun l : (List Bool) => l.length ≤ maxLen ∧ ∀ x ∈ l, (fun _ : Bool => True) x) l1 → (Lit.int .u16 a2).wf = true → ∃ k, ferrulelaw20_HintRound.f k l0 l1 a2 = some true

end Go.Proofs.Ytaocceijkiiciaa.X
