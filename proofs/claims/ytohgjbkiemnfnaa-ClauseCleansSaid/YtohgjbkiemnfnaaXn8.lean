-- Written by a program of this session (wip/xp), out of the translation. Not trusted: Lean checks it.
import Derived.Test.YtohgjbkiemnfnaaX0
import Derived.Test.YtohgjbkiemnfnaaXn33
import Derived.Test.YtohgjbkiemnfnaaXn35
import Derived.Test.YtohgjbkiemnfnaaXn30
import Derived.Test.YtohgjbkiemnfnaaXn34
import Derived.Test.YtohgjbkiemnfnaaXn36
import Derived.Test.YtohgjbkiemnfnaaXn37
-- shrunk
namespace Go.Proofs.Ytohgjbkiemnfnaa.X
open Go.RowKit Go.Proofs.YtohgjbkiemnfnaaW.PrintWords Go.Proofs.YtohgjbkiemnfnaaW.PrintLast Go.Proofs.YtohgjbkiemnfnaaW.PrintMore
attribute [local go_sem] Lab.str_gtr Lab.str_leq Lab.str_geq max2_int min2_int max_two min_two max_three min_three max_four min_four   -- for this text's walks alone
set_option linter.unusedVariables false
set_option linter.unusedSimpArgs false

/-! ### ferrulelaw12_ClauseCleans: function 8 -/
def ferrulelaw12_ClauseCleans.f (k : Nat) (l0 : List Int) (a1 : Int) : Option (Bool) := (ferrulelaw12_awake.f k).bind fun t101 => (if t101 = true then (if (l0.length : Int) > 60 then (some true) else ((clause_Clean.f k l0).bind fun bt102 => ((ferruleref12_Clean.f k l0).bind fun bt106 => ((ferruleref12_Same.f k bt102.1 bt106.1).bind fun t110 => (if t110 = true then (if (bt102.2 == bt106.2) = true then ((clause_Good.f l0 a1).bind fun t111 => ((ferruleref12_Good.f k l0 a1).bind fun t112 => (some (t111 == t112)))) else (some false)) else (some false)))))) else (some false))
theorem ferrulelaw12_ClauseCleans.mono : ∀ a0 a1 k, LeO (ferrulelaw12_ClauseCleans.f k a0 a1) (ferrulelaw12_ClauseCleans.f (k + 1) a0 a1) := by
 intro a0 a1 k
 unfold ferrulelaw12_ClauseCleans.f
 repeat' first
   | (with_reducible exact clause_Clean.mono _ _)
   | (with_reducible exact ferrulelaw12_awake.mono _)
   | (with_reducible exact ferruleref12_Clean.mono _ _)
   | (with_reducible exact ferruleref12_Good.mono _ _ _)
   | (with_reducible exact ferruleref12_Same.mono _ _ _)
   | (with_reducible exact LeO.refl _)
   | (with_reducible exact LeO.none _)
   | (with_reducible refine LeO.ite ?_ ?_)
   | (with_reducible refine LeO.bind ?_ (fun _ => ?_))
   | exact clause_Clean.mono _ _
   | exact ferrulelaw12_awake.mono _
   | exact ferruleref12_Clean.mono _ _
   | exact ferruleref12_Good.mono _ _ _
   | exact ferruleref12_Same.mono _ _ _
   | exact LeO.none _
   | refine LeO.ite ?_ ?_
   | refine LeO.bind ?_ (fun _ => ?_)
set_option maxHeartbeats 8000000 in
set_option maxRecDepth 100000 in
theorem ferrulelaw12_ClauseCleans.calls (k : Nat) (A0 : Option Addr) (c0 : Nat) (l0 : List Int) (a1 : Int) (r : Bool) (w : World) (hr0 : Kd.C (Kd.int .i64) w A0 l0.length l0) (hc0 : l0.length ≤ c0) (h : ferrulelaw12_ClauseCleans.f k l0 a1 = some r) :
  Calls Try.prog 8 #[.slice A0 l0.length c0, .int .i64 a1] w fun e w' => e = .returned (.bool r) ∧ Below w.heap.size w w' := by
 have HR0 := Aside0.mk hr0
 have HC0 := Aside0.mk hc0
 clear hr0 hc0
 have HB := Aside0.mk (Below.refl w.heap.size w)
 have H : ((ferrulelaw12_awake.f k).bind fun t101 => (if t101 = true then (if (l0.length : Int) > 60 then (some true) else ((clause_Clean.f k l0).bind fun bt102 => ((ferruleref12_Clean.f k l0).bind fun bt106 => ((ferruleref12_Same.f k bt102.1 bt106.1).bind fun t110 => (if t110 = true then (if (bt102.2 == bt106.2) = true then ((clause_Good.f l0 a1).bind fun t111 => ((ferruleref12_Good.f k l0 a1).bind fun t112 => (some (t111 == t112)))) else (some false)) else (some false)))))) else (some false))) = some r := h
 clear h
 replace H := Option.bind_eq_some_iff.mp H
 obtain ⟨t101, A30, H⟩ := H
 replace H : (if t101 = true then (if (l0.length : Int) > 60 then (some true) else ((clause_Clean.f k l0).bind fun bt102 => ((ferruleref12_Clean.f k l0).bind fun bt106 => ((ferruleref12_Same.f k bt102.1 bt106.1).bind fun t110 => (if t110 = true then (if (bt102.2 == bt106.2) = true then ((clause_Good.f l0 a1).bind fun t111 => ((ferruleref12_Good.f k l0 a1).bind fun t112 => (some (t111 == t112)))) else (some false)) else (some false)))))) else (some false)) = some r := H
 have A3 := Aside0.mk A30
 clear A30
 by_cases c4 : t101 = true
 ·subst c4
  have H1 : (if (l0.length : Int) > 60 then (some true) else ((clause_Clean.f k l0).bind fun bt102 => ((ferruleref12_Clean.f k l0).bind fun bt106 => ((ferruleref12_Same.f k bt102.1 bt106.1).bind fun t110 => (if t110 = true then (if (bt102.2 == bt106.2) = true then ((clause_Good.f l0 a1).bind fun t111 => ((ferruleref12_Good.f k l0 a1).bind fun t112 => (some (t111 == t112)))) else (some false)) else (some false)))))) = some r := by rw [if_pos rfl] at H; exact H
  clear H
  have H := H1
  clear H1
  by_cases c5 : (l0.length : Int) > 60
  ·rw [if_pos c5] at H
   have c5b0 : decide (60 < (l0.length : Int)) = true := decide_eq_true c5
   have c5b1 : decide (60 < l0.length) = true := decide_eq_true (by omega)
   clear c5
   obtain rfl := Option.some.inj H
   go_enter Try.func8, Try.ntmps8
   go_wp2_with (first | ((with_reducible refine gate_callee (f := 30) rfl ?_); refine goesL_ (some 9) rfl rfl Try.func30 (by kernel_rfl) rfl #[] rfl bM ?_; (with_reducible refine (ferrulelaw12_awake.calls k  true _ A3.out).mono ?_); rintro e w6 ⟨rfl, hb⟩; refine ⟨_, rfl, ?_⟩; replace HB := aB HB hb; (try clear hb); (try clear hb2); (try clear hk); (try clear hi)))
   go_ret
   exact ⟨by first | rfl | (simp [errW_none, errW_some] <;> rfl) | (simp [*, errW_none, errW_some] <;> rfl), bB⟩
  ·rw [if_neg c5] at H
   have c5b0 : decide (60 < (l0.length : Int)) = false := decide_eq_false c5
   have c5b1 : decide (60 < l0.length) = false := decide_eq_false (by omega)
   clear c5
   replace H := Option.bind_eq_some_iff.mp H
   obtain ⟨⟨t102, t103⟩, A70, H⟩ := H
   replace H : ((ferruleref12_Clean.f k l0).bind fun bt106 => ((ferruleref12_Same.f k t102 bt106.1).bind fun t110 => (if t110 = true then (if (t103 == bt106.2) = true then ((clause_Good.f l0 a1).bind fun t111 => ((ferruleref12_Good.f k l0 a1).bind fun t112 => (some (t111 == t112)))) else (some false)) else (some false)))) = some r := H
   have A7 := Aside0.mk A70
   clear A70
   replace H := Option.bind_eq_some_iff.mp H
   obtain ⟨⟨t106, t107⟩, A80, H⟩ := H
   replace H : ((ferruleref12_Same.f k t102 t106).bind fun t110 => (if t110 = true then (if (t103 == t107) = true then ((clause_Good.f l0 a1).bind fun t111 => ((ferruleref12_Good.f k l0 a1).bind fun t112 => (some (t111 == t112)))) else (some false)) else (some false))) = some r := H
   have A8 := Aside0.mk A80
   clear A80
   replace H := Option.bind_eq_some_iff.mp H
   obtain ⟨t110, A90, H⟩ := H
   replace H : (if t110 = true then (if (t103 == t107) = true then ((clause_Good.f l0 a1).bind fun t111 => ((ferruleref12_Good.f k l0 a1).bind fun t112 => (some (t111 == t112)))) else (some false)) else (some false)) = some r := H
   have A9 := Aside0.mk A90
   clear A90
   by_cases c10 : t110 = true
   ·subst c10
    have H1 : (if (t103 == t107) = true then ((clause_Good.f l0 a1).bind fun t111 => ((ferruleref12_Good.f k l0 a1).bind fun t112 => (some (t111 == t112)))) else (some false)) = some r := by rw [if_pos rfl] at H; exact H
    clear H
    have H := H1
    clear H1
    by_cases c11 : (t103 == t107) = true
    ·rw [if_pos c11] at H
     have c11b0 : (t103 == t107) = true := c11
     (try (have c11b1 : decide (t103 = t107) = true := by simpa using c11))
     (try (have c11b2 : (t103 == t107) = true := by simpa using c11))
     clear c11
     replace H := Option.bind_eq_some_iff.mp H
     obtain ⟨t111, A120, H⟩ := H
     replace H : ((ferruleref12_Good.f k l0 a1).bind fun t112 => (some (t111 == t112))) = some r := H
     have A12 := Aside0.mk A120
     clear A120
     replace H := Option.bind_eq_some_iff.mp H
     obtain ⟨t112, A130, H⟩ := H
     replace H : (some (t111 == t112)) = some r := H
     have A13 := Aside0.mk A130
     clear A130
     obtain rfl := Option.some.inj H
     go_enter Try.func8, Try.ntmps8
     go_wp2_with (first | ((with_reducible refine gate_callee (f := 30) rfl ?_); refine goesL_ (some 9) rfl rfl Try.func30 (by kernel_rfl) rfl #[] rfl bM ?_; (with_reducible refine (ferrulelaw12_awake.calls k  true _ A3.out).mono ?_); rintro e w14 ⟨rfl, hb⟩; refine ⟨_, rfl, ?_⟩; replace HB := aB HB hb; (try clear hb); (try clear hb2); (try clear hk); (try clear hi)) | ((with_reducible refine gate_callee (f := 33) rfl ?_); refine goesL_ (some 16) rfl rfl Try.func33 (by kernel_rfl) rfl #[.slice A0 l0.length c0] rfl bM ?_; (with_reducible refine (clause_Clean.calls k _ _ l0 t102 t103 _ ?side1 ?side2 A7.out).mono ?_); (case side1 => exact sW (Kd.C_below HR0.out HB.out)); (case side2 => exact HC0.out); rintro e w15 ⟨v104, rfl, ho0, hb⟩; refine ⟨_, rfl, ?_⟩; have HO105 := aL ho0 HB; replace HB := aB HB hb; (try clear hb); (try clear hb2); (try clear hk); (try clear hi); (try clear ho0)) | ((with_reducible refine gate_callee (f := 34) rfl ?_); refine goesL_ (some 21) rfl rfl Try.func34 (by kernel_rfl) rfl #[.slice A0 l0.length c0] rfl bM ?_; (with_reducible refine (ferruleref12_Clean.calls k _ _ l0 t106 t107 _ ?side1 ?side2 A8.out).mono ?_); (case side1 => exact sW (Kd.C_below HR0.out HB.out)); (case side2 => exact HC0.out); rintro e w16 ⟨v108, rfl, ho0, hb⟩; refine ⟨_, rfl, ?_⟩; have HO109 := aN ho0 HO105 HB; replace HO105 := aE HO105 ho0 hb; replace HB := aB HB hb; (try clear hb); (try clear hb2); (try clear hk); (try clear hi); (try clear ho0); obtain ⟨Ao17, co17, eo17⟩ := Kd.R_slice HO105.out; subst eo17; obtain ⟨Ao18, co18, eo18⟩ := Kd.R_slice HO109.out; subst eo18) | ((with_reducible refine gate_callee (f := 35) rfl ?_); refine goesL_ (some 26) rfl rfl Try.func35 (by kernel_rfl) rfl #[.slice Ao17 t102.length co17, .slice Ao18 t106.length co18] rfl bM ?_; (with_reducible refine (ferruleref12_Same.calls k _ _ t102 _ _ t106 true _ ?side1 ?side2 ?side3 ?side4 A9.out).mono ?_); (case side1 => exact sW (Kd.R_reads' HO105.out).2.2); (case side2 => exact (Kd.R_reads' HO105.out).2.1); (case side3 => exact sW (Kd.R_reads' HO109.out).2.2); (case side4 => exact (Kd.R_reads' HO109.out).2.1); rintro e w' ⟨rfl, ⟨nd, rfl⟩⟩; refine ⟨_, rfl, ?_⟩) | (go_at_call 36; (with_reducible refine (clause_Good.calls _ _ l0 a1 t111 _ ?side1 ?side2 A12.out).mono ?_); (case side1 => exact sW (Kd.C_below HR0.out bB)); (case side2 => exact HC0.out); rintro e w19 ⟨rfl, hb⟩; replace HO105 := aR HO105 hb; replace HO109 := aR HO109 hb; replace HB := aB HB hb; (try clear hb); (try clear hb2); (try clear hk); (try clear hi)) | (go_at_call 37; (with_reducible refine (ferruleref12_Good.calls k _ _ l0 a1 t112 _ ?side1 ?side2 A13.out).mono ?_); (case side1 => exact sW (Kd.C_below HR0.out HB.out)); (case side2 => exact HC0.out); rintro e w' ⟨rfl, ⟨nd, rfl⟩⟩))
     go_ret
     exact ⟨by first | rfl | (simp [errW_none, errW_some] <;> rfl) | (simp [*, errW_none, errW_some] <;> rfl), bB⟩
    ·rw [if_neg c11] at H
     have c11b0 : (t103 == t107) = false := by simpa using c11
     (try (have c11b1 : decide (t103 = t107) = false := by simpa using c11))
     (try (have c11b2 : (t103 == t107) = false := by simpa using c11))
     (try (have c11b3 : ¬ (t103 = t107) := by simpa using c11))
     clear c11
     obtain rfl := Option.some.inj H
     go_enter Try.func8, Try.ntmps8
     go_wp2_with (first | ((with_reducible refine gate_callee (f := 30) rfl ?_); refine goesL_ (some 9) rfl rfl Try.func30 (by kernel_rfl) rfl #[] rfl bM ?_; (with_reducible refine (ferrulelaw12_awake.calls k  true _ A3.out).mono ?_); rintro e w20 ⟨rfl, hb⟩; refine ⟨_, rfl, ?_⟩; replace HB := aB HB hb; (try clear hb); (try clear hb2); (try clear hk); (try clear hi)) | ((with_reducible refine gate_callee (f := 33) rfl ?_); refine goesL_ (some 16) rfl rfl Try.func33 (by kernel_rfl) rfl #[.slice A0 l0.length c0] rfl bM ?_; (with_reducible refine (clause_Clean.calls k _ _ l0 t102 t103 _ ?side1 ?side2 A7.out).mono ?_); (case side1 => exact sW (Kd.C_below HR0.out HB.out)); (case side2 => exact HC0.out); rintro e w21 ⟨v104, rfl, ho0, hb⟩; refine ⟨_, rfl, ?_⟩; have HO105 := aL ho0 HB; replace HB := aB HB hb; (try clear hb); (try clear hb2); (try clear hk); (try clear hi); (try clear ho0)) | ((with_reducible refine gate_callee (f := 34) rfl ?_); refine goesL_ (some 21) rfl rfl Try.func34 (by kernel_rfl) rfl #[.slice A0 l0.length c0] rfl bM ?_; (with_reducible refine (ferruleref12_Clean.calls k _ _ l0 t106 t107 _ ?side1 ?side2 A8.out).mono ?_); (case side1 => exact sW (Kd.C_below HR0.out HB.out)); (case side2 => exact HC0.out); rintro e w22 ⟨v108, rfl, ho0, hb⟩; refine ⟨_, rfl, ?_⟩; have HO109 := aN ho0 HO105 HB; replace HO105 := aE HO105 ho0 hb; replace HB := aB HB hb; (try clear hb); (try clear hb2); (try clear hk); (try clear hi); (try clear ho0); obtain ⟨Ao23, co23, eo23⟩ := Kd.R_slice HO105.out; subst eo23; obtain ⟨Ao24, co24, eo24⟩ := Kd.R_slice HO109.out; subst eo24) | ((with_reducible refine gate_callee (f := 35) rfl ?_); refine goesL_ (some 26) rfl rfl Try.func35 (by kernel_rfl) rfl #[.slice Ao23 t102.length co23, .slice Ao24 t106.length co24] rfl bM ?_; (with_reducible refine (ferruleref12_Same.calls k _ _ t102 _ _ t106 true _ ?side1 ?side2 ?side3 ?side4 A9.out).mono ?_); (case side1 => exact sW (Kd.R_reads' HO105.out).2.2); (case side2 => exact (Kd.R_reads' HO105.out).2.1); (case side3 => exact sW (Kd.R_reads' HO109.out).2.2); (case side4 => exact (Kd.R_reads' HO109.out).2.1); rintro e w' ⟨rfl, ⟨nd, rfl⟩⟩; refine ⟨_, rfl, ?_⟩))
     go_ret
     exact ⟨by first | rfl | (simp [errW_none, errW_some] <;> rfl) | (simp [*, errW_none, errW_some] <;> rfl), bB⟩
   ·replace c10 := Bool.eq_false_iff.mpr c10
    subst c10
    have H1 : (some false) = some r := by rw [if_neg (show ¬ (false = true) by decide)] at H; exact H
    clear H
    have H := H1
    clear H1
    obtain rfl := Option.some.inj H
    go_enter Try.func8, Try.ntmps8
    go_wp2_with (first | ((with_reducible refine gate_callee (f := 30) rfl ?_); refine goesL_ (some 9) rfl rfl Try.func30 (by kernel_rfl) rfl #[] rfl bM ?_; (with_reducible refine (ferrulelaw12_awake.calls k  true _ A3.out).mono ?_); rintro e w25 ⟨rfl, hb⟩; refine ⟨_, rfl, ?_⟩; replace HB := aB HB hb; (try clear hb); (try clear hb2); (try clear hk); (try clear hi)) | ((with_reducible refine gate_callee (f := 33) rfl ?_); refine goesL_ (some 16) rfl rfl Try.func33 (by kernel_rfl) rfl #[.slice A0 l0.length c0] rfl bM ?_; (with_reducible refine (clause_Clean.calls k _ _ l0 t102 t103 _ ?side1 ?side2 A7.out).mono ?_); (case side1 => exact sW (Kd.C_below HR0.out HB.out)); (case side2 => exact HC0.out); rintro e w26 ⟨v104, rfl, ho0, hb⟩; refine ⟨_, rfl, ?_⟩; have HO105 := aL ho0 HB; replace HB := aB HB hb; (try clear hb); (try clear hb2); (try clear hk); (try clear hi); (try clear ho0)) | ((with_reducible refine gate_callee (f := 34) rfl ?_); refine goesL_ (some 21) rfl rfl Try.func34 (by kernel_rfl) rfl #[.slice A0 l0.length c0] rfl bM ?_; (with_reducible refine (ferruleref12_Clean.calls k _ _ l0 t106 t107 _ ?side1 ?side2 A8.out).mono ?_); (case side1 => exact sW (Kd.C_below HR0.out HB.out)); (case side2 => exact HC0.out); rintro e w27 ⟨v108, rfl, ho0, hb⟩; refine ⟨_, rfl, ?_⟩; have HO109 := aN ho0 HO105 HB; replace HO105 := aE HO105 ho0 hb; replace HB := aB HB hb; (try clear hb); (try clear hb2); (try clear hk); (try clear hi); (try clear ho0); obtain ⟨Ao28, co28, eo28⟩ := Kd.R_slice HO105.out; subst eo28; obtain ⟨Ao29, co29, eo29⟩ := Kd.R_slice HO109.out; subst eo29) | ((with_reducible refine gate_callee (f := 35) rfl ?_); refine goesL_ (some 26) rfl rfl Try.func35 (by kernel_rfl) rfl #[.slice Ao28 t102.length co28, .slice Ao29 t106.length co29] rfl bM ?_; (with_reducible refine (ferruleref12_Same.calls k _ _ t102 _ _ t106 false _ ?side1 ?side2 ?side3 ?side4 A9.out).mono ?_); (case side1 => exact sW (Kd.R_reads' HO105.out).2.2); (case side2 => exact (Kd.R_reads' HO105.out).2.1); (case side3 => exact sW (Kd.R_reads' HO109.out).2.2); (case side4 => exact (Kd.R_reads' HO109.out).2.1); rintro e w' ⟨rfl, ⟨nd, rfl⟩⟩; refine ⟨_, rfl, ?_⟩))
    go_ret
    exact ⟨by first | rfl | (simp [errW_none, errW_some] <;> rfl) | (simp [*, errW_none, errW_some] <;> rfl), bB⟩
 ·replace c4 := Bool.eq_false_iff.mpr c4
  subst c4
  have H1 : (some false) = some r := by rw [if_neg (show ¬ (false = true) by decide)] at H; exact H
  clear H
  have H := H1
  clear H1
  obtain rfl := Option.some.inj H
  go_enter Try.func8, Try.ntmps8
  go_wp2_with (first | ((with_reducible refine gate_callee (f := 30) rfl ?_); refine goesL_ (some 9) rfl rfl Try.func30 (by kernel_rfl) rfl #[] rfl bM ?_; (with_reducible refine (ferrulelaw12_awake.calls k  false _ A3.out).mono ?_); rintro e w30 ⟨rfl, hb⟩; refine ⟨_, rfl, ?_⟩; replace HB := aB HB hb; (try clear hb); (try clear hb2); (try clear hk); (try clear hi)))
  go_ret
  exact ⟨by first | rfl | (simp [errW_none, errW_some] <;> rfl) | (simp [*, errW_none, errW_some] <;> rfl), bB⟩

/-- THE ONE PURE STATEMENT of ferrulelaw12_ClauseCleans: yours. -/
def ferrulelaw12_ClauseCleans.Pure : Prop := ∀ (l0 : List Int) (a1 : Int), l0.length ≤ maxLen → l0.length * 8 ≤ 140737488351232 → (∀ x ∈ l0, (Lit.int .i64 x).wf = true) → (Lit.int .i64 a1).wf = true → ∃ k, ferrulelaw12_ClauseCleans.f k l0 a1 = some true
theorem ferrulelaw12_ClauseCleans.walk (P : ferrulelaw12_ClauseCleans.Pure) (a0 : Option Addr) (len0 cap0 : Nat) (z0 : List Int) (a1 : Int) (w : World) (w0 : (a0 = none ∧ len0 = 0 ∧ cap0 = 0 ∧ z0 = []) ∨ ∃ x, a0 = some x ∧ len0 ≤ cap0 ∧ cap0 ≤ maxLen ∧ z0.length = cap0 ∧ (∀ i, i < z0.length → w.cell? (x.add i) = some (.int .i64 (z0.getD i 0))) ∧ ∀ n ∈ z0, (Lit.int .i64 n).wf = true) (y0 : len0 * 8 ≤ 140737488351232) (w1 : (Lit.int .i64 a1).wf = true) :
  Calls Try.prog 8 #[.slice a0 len0 cap0, .int .i64 a1] w fun e w' => e = .returned (.bool true) ∧ Below w.heap.size w w' := by
 obtain ⟨l0, rfl, hr0, hm0, hw0, hc0⟩ := ReadsInt.ofRowC w0
 obtain ⟨k, h⟩ := P l0 a1 hm0 y0 hw0 w1
 refine (ferrulelaw12_ClauseCleans.calls k _ _ l0 a1 true w (Kd.C_of_reads (d := (0 : Int)) (h1 := fun _ => rfl) hr0) hc0 h).mono ?_
 rintro e w' ⟨rfl, hd⟩
 exact ⟨rfl, hd⟩

end Go.Proofs.Ytohgjbkiemnfnaa.X
