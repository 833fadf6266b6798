-- Written by a program of this session (wip/xp), out of the translation. Not trusted: Lean checks it.
import Derived.Test.YtildmfegfkiknaaDoorX0
import Derived.Test.YtildmfegfkiknaaDoorXn15
import Derived.Test.YtildmfegfkiknaaDoorXn14
import Derived.Test.YtildmfegfkiknaaDoorXn17
import Derived.Test.YtildmfegfkiknaaDoorXn19
import Derived.Test.YtildmfegfkiknaaDoorXn41
import Derived.Test.YtildmfegfkiknaaDoorXn42
import Derived.Test.YtildmfegfkiknaaDoorXn39
import Derived.Test.YtildmfegfkiknaaDoorXn40
-- shrunk
namespace Go.Proofs.YtildmfegfkiknaaDoor.X
open Go.RowKit Go.Proofs.YtildmfegfkiknaaDoorW.PrintWords Go.Proofs.YtildmfegfkiknaaDoorW.PrintLast Go.Proofs.YtildmfegfkiknaaDoorW.PrintMore
attribute [local go_sem] Lab.str_gtr Lab.str_leq Lab.str_geq max2_int min2_int max_two min_two max_three min_three max_four min_four   -- for this text's walks alone
set_option linter.unusedVariables false
set_option linter.unusedSimpArgs false

/-! ### ferrulelaw02_IdentGood: function 11 -/
mutual
def ferrulelaw02_IdentGood.j0 : Nat → List ByteArray → Bool → ByteArray → Bool → Bool → Option (Bool)
 | 0, _, _, _, _, _ => none
 | k + 1, x0, x1, x5, x6, x30 => if x30 = true then (some false) else (if x6 = true then (ferrulelaw02_IdentGood.j1 k x0 x1 x5 ((x0.length : Int) == 0)) else (ferrulelaw02_IdentGood.j1 k x0 x1 x5 true))
def ferrulelaw02_IdentGood.j1 : Nat → List ByteArray → Bool → ByteArray → Bool → Option (Bool)
 | 0, _, _, _, _ => none
 | k + 1, x0, x1, x5, x37 => if x37 = true then (some true) else (if x5.size + 1 ≤ 9223372036854775807 then ((ident_Row.f k (bytesOf (x5 ++ (⟨#[43]⟩ : ByteArray))) 0 x1).bind fun bt109 => (if bt109.2.2 = 0 then (if bt109.2.1 = (x5.size : Int) then ((ferruleref02_Same.f k x0 bt109.1).bind fun t114 => (some t114)) else (some false)) else (some false))) else (none))
end
def ferrulelaw02_IdentGood.f (k : Nat) (l0 : List ByteArray) (a1 : Bool) : Option (Bool) := (ferrulelaw02_awake.f k).bind fun t101 => (if t101 = true then ((ferrulelaw02_short.f k l0).bind fun t102 => (if t102 = true then ((ident_Text.f l0).bind fun t103 => ((ident_Good.f k l0 a1).bind fun t104 => ((ferruleref02_Text.f k l0).bind fun t105 => (if t103.toList = t105.toList then ((ferruleref02_Good.f k l0 a1).bind fun t106 => (ferrulelaw02_IdentGood.j0 k l0 a1 t103 t104 (t104 != t106))) else (ferrulelaw02_IdentGood.j0 k l0 a1 t103 t104 true))))) else (some true))) else (some false))
theorem ferrulelaw02_IdentGood.mono_l : ∀ k, (∀ y0 y1 y2 y3 y4, LeO (ferrulelaw02_IdentGood.j0 k y0 y1 y2 y3 y4) (ferrulelaw02_IdentGood.j0 (k + 1) y0 y1 y2 y3 y4)) ∧ (∀ y0 y1 y2 y3, LeO (ferrulelaw02_IdentGood.j1 k y0 y1 y2 y3) (ferrulelaw02_IdentGood.j1 (k + 1) y0 y1 y2 y3))
 | 0 => ⟨fun _ _ _ _ _ r h => by simp [ferrulelaw02_IdentGood.j0] at h, fun _ _ _ _ r h => by simp [ferrulelaw02_IdentGood.j1] at h⟩
 | k + 1 => by
  obtain ⟨ih0, ih1⟩ := ferrulelaw02_IdentGood.mono_l k
  refine ⟨?_, ?_⟩
  ·intro y0 y1 y2 y3 y4
   unfold ferrulelaw02_IdentGood.j0
   repeat' first
   | (with_reducible exact ih0 _ _ _ _ _)
   | (with_reducible exact ih1 _ _ _ _)
   | (with_reducible exact ferrulelaw02_awake.mono _)
   | (with_reducible exact ferrulelaw02_short.mono _ _)
   | (with_reducible exact ferruleref02_Good.mono _ _ _)
   | (with_reducible exact ferruleref02_Same.mono _ _ _)
   | (with_reducible exact ferruleref02_Text.mono _ _)
   | (with_reducible exact ident_Good.mono _ _ _)
   | (with_reducible exact ident_Row.mono _ _ _ _)
   | (with_reducible exact LeO.refl _)
   | (with_reducible exact LeO.none _)
   | (with_reducible refine LeO.ite ?_ ?_)
   | (with_reducible refine LeO.bind ?_ (fun _ => ?_))
   | exact ih0 _ _ _ _ _
   | exact ih1 _ _ _ _
   | exact ferrulelaw02_awake.mono _
   | exact ferrulelaw02_short.mono _ _
   | exact ferruleref02_Good.mono _ _ _
   | exact ferruleref02_Same.mono _ _ _
   | exact ferruleref02_Text.mono _ _
   | exact ident_Good.mono _ _ _
   | exact ident_Row.mono _ _ _ _
   | exact LeO.none _
   | refine LeO.ite ?_ ?_
   | refine LeO.bind ?_ (fun _ => ?_)
  ·intro y0 y1 y2 y3
   unfold ferrulelaw02_IdentGood.j1
   repeat' first
   | (with_reducible exact ih0 _ _ _ _ _)
   | (with_reducible exact ih1 _ _ _ _)
   | (with_reducible exact ferrulelaw02_awake.mono _)
   | (with_reducible exact ferrulelaw02_short.mono _ _)
   | (with_reducible exact ferruleref02_Good.mono _ _ _)
   | (with_reducible exact ferruleref02_Same.mono _ _ _)
   | (with_reducible exact ferruleref02_Text.mono _ _)
   | (with_reducible exact ident_Good.mono _ _ _)
   | (with_reducible exact ident_Row.mono _ _ _ _)
   | (with_reducible exact LeO.refl _)
   | (with_reducible exact LeO.none _)
   | (with_reducible refine LeO.ite ?_ ?_)
   | (with_reducible refine LeO.bind ?_ (fun _ => ?_))
   | exact ih0 _ _ _ _ _
   | exact ih1 _ _ _ _
   | exact ferrulelaw02_awake.mono _
   | exact ferrulelaw02_short.mono _ _
   | exact ferruleref02_Good.mono _ _ _
   | exact ferruleref02_Same.mono _ _ _
   | exact ferruleref02_Text.mono _ _
   | exact ident_Good.mono _ _ _
   | exact ident_Row.mono _ _ _ _
   | exact LeO.none _
   | refine LeO.ite ?_ ?_
   | refine LeO.bind ?_ (fun _ => ?_)
theorem ferrulelaw02_IdentGood.mono : ∀ a0 a1 k, LeO (ferrulelaw02_IdentGood.f k a0 a1) (ferrulelaw02_IdentGood.f (k + 1) a0 a1) := by
 intro a0 a1 k
 obtain ⟨ih0, ih1⟩ := ferrulelaw02_IdentGood.mono_l k
 unfold ferrulelaw02_IdentGood.f
 repeat' first
   | (with_reducible exact ih0 _ _ _ _ _)
   | (with_reducible exact ih1 _ _ _ _)
   | (with_reducible exact ferrulelaw02_awake.mono _)
   | (with_reducible exact ferrulelaw02_short.mono _ _)
   | (with_reducible exact ferruleref02_Good.mono _ _ _)
   | (with_reducible exact ferruleref02_Same.mono _ _ _)
   | (with_reducible exact ferruleref02_Text.mono _ _)
   | (with_reducible exact ident_Good.mono _ _ _)
   | (with_reducible exact ident_Row.mono _ _ _ _)
   | (with_reducible exact LeO.refl _)
   | (with_reducible exact LeO.none _)
   | (with_reducible refine LeO.ite ?_ ?_)
   | (with_reducible refine LeO.bind ?_ (fun _ => ?_))
   | exact ih0 _ _ _ _ _
   | exact ih1 _ _ _ _
   | exact ferrulelaw02_awake.mono _
   | exact ferrulelaw02_short.mono _ _
   | exact ferruleref02_Good.mono _ _ _
   | exact ferruleref02_Same.mono _ _ _
   | exact ferruleref02_Text.mono _ _
   | exact ident_Good.mono _ _ _
   | exact ident_Row.mono _ _ _ _
   | exact LeO.none _
   | refine LeO.ite ?_ ?_
   | refine LeO.bind ?_ (fun _ => ?_)
set_option maxHeartbeats 8000000 in
set_option maxRecDepth 100000 in
theorem ferrulelaw02_IdentGood.calls (k : Nat) (A0 : Option Addr) (c0 : Nat) (l0 : List ByteArray) (a1 : Bool) (r : Bool) (w : World) (hr0 : Kd.C Kd.string w A0 l0.length l0) (hc0 : l0.length ≤ c0) (h : ferrulelaw02_IdentGood.f k l0 a1 = some r) :
  Calls Tryd.prog 11 #[.slice A0 l0.length c0, .bool a1] w fun e w' => e = .returned (.bool r) ∧ Below w.heap.size w w' := by
 have HR0 := Aside0.mk hr0
 have HC0 := Aside0.mk hc0
 clear hr0 hc0
 have HB := Aside0.mk (Below.refl w.heap.size w)
 have H : ((ferrulelaw02_awake.f k).bind fun t101 => (if t101 = true then ((ferrulelaw02_short.f k l0).bind fun t102 => (if t102 = true then ((ident_Text.f l0).bind fun t103 => ((ident_Good.f k l0 a1).bind fun t104 => ((ferruleref02_Text.f k l0).bind fun t105 => (if t103.toList = t105.toList then ((ferruleref02_Good.f k l0 a1).bind fun t106 => (ferrulelaw02_IdentGood.j0 k l0 a1 t103 t104 (t104 != t106))) else (ferrulelaw02_IdentGood.j0 k l0 a1 t103 t104 true))))) else (some true))) else (some false))) = some r := h
 clear h
 replace H := Option.bind_eq_some_iff.mp H
 obtain ⟨t101, A30, H⟩ := H
 replace H : (if t101 = true then ((ferrulelaw02_short.f k l0).bind fun t102 => (if t102 = true then ((ident_Text.f l0).bind fun t103 => ((ident_Good.f k l0 a1).bind fun t104 => ((ferruleref02_Text.f k l0).bind fun t105 => (if t103.toList = t105.toList then ((ferruleref02_Good.f k l0 a1).bind fun t106 => (ferrulelaw02_IdentGood.j0 k l0 a1 t103 t104 (t104 != t106))) else (ferrulelaw02_IdentGood.j0 k l0 a1 t103 t104 true))))) else (some true))) else (some false)) = some r := H
 have A3 := Aside0.mk A30
 clear A30
 by_cases c4 : t101 = true
 ·subst c4
  have H1 : ((ferrulelaw02_short.f k l0).bind fun t102 => (if t102 = true then ((ident_Text.f l0).bind fun t103 => ((ident_Good.f k l0 a1).bind fun t104 => ((ferruleref02_Text.f k l0).bind fun t105 => (if t103.toList = t105.toList then ((ferruleref02_Good.f k l0 a1).bind fun t106 => (ferrulelaw02_IdentGood.j0 k l0 a1 t103 t104 (t104 != t106))) else (ferrulelaw02_IdentGood.j0 k l0 a1 t103 t104 true))))) else (some true))) = some r := by rw [if_pos rfl] at H; exact H
  clear H
  have H := H1
  clear H1
  replace H := Option.bind_eq_some_iff.mp H
  obtain ⟨t102, A50, H⟩ := H
  replace H : (if t102 = true then ((ident_Text.f l0).bind fun t103 => ((ident_Good.f k l0 a1).bind fun t104 => ((ferruleref02_Text.f k l0).bind fun t105 => (if t103.toList = t105.toList then ((ferruleref02_Good.f k l0 a1).bind fun t106 => (ferrulelaw02_IdentGood.j0 k l0 a1 t103 t104 (t104 != t106))) else (ferrulelaw02_IdentGood.j0 k l0 a1 t103 t104 true))))) else (some true)) = some r := H
  have A5 := Aside0.mk A50
  clear A50
  by_cases c6 : t102 = true
  ·subst c6
   have H1 : ((ident_Text.f l0).bind fun t103 => ((ident_Good.f k l0 a1).bind fun t104 => ((ferruleref02_Text.f k l0).bind fun t105 => (if t103.toList = t105.toList then ((ferruleref02_Good.f k l0 a1).bind fun t106 => (ferrulelaw02_IdentGood.j0 k l0 a1 t103 t104 (t104 != t106))) else (ferrulelaw02_IdentGood.j0 k l0 a1 t103 t104 true))))) = some r := by rw [if_pos rfl] at H; exact H
   clear H
   have H := H1
   clear H1
   replace H := Option.bind_eq_some_iff.mp H
   obtain ⟨t103, A70, H⟩ := H
   replace H : ((ident_Good.f k l0 a1).bind fun t104 => ((ferruleref02_Text.f k l0).bind fun t105 => (if t103.toList = t105.toList then ((ferruleref02_Good.f k l0 a1).bind fun t106 => (ferrulelaw02_IdentGood.j0 k l0 a1 t103 t104 (t104 != t106))) else (ferrulelaw02_IdentGood.j0 k l0 a1 t103 t104 true)))) = some r := H
   have A7 := Aside0.mk A70
   clear A70
   replace H := Option.bind_eq_some_iff.mp H
   obtain ⟨t104, A80, H⟩ := H
   replace H : ((ferruleref02_Text.f k l0).bind fun t105 => (if t103.toList = t105.toList then ((ferruleref02_Good.f k l0 a1).bind fun t106 => (ferrulelaw02_IdentGood.j0 k l0 a1 t103 t104 (t104 != t106))) else (ferrulelaw02_IdentGood.j0 k l0 a1 t103 t104 true))) = some r := H
   have A8 := Aside0.mk A80
   clear A80
   have HC9 := Aside0.mk H
   clear H
   go_enter Tryd.func11, Tryd.ntmps11
   go_upto_region 7 with (first | ((with_reducible refine gate_callee (f := 14) rfl ?_); refine goesL_ (some 10) rfl rfl Tryd.func14 (by kernel_rfl) rfl #[] rfl bM ?_; (with_reducible refine (ferrulelaw02_awake.calls k  true _ A3.out).mono ?_); rintro e w10 ⟨rfl, hb⟩; refine ⟨_, rfl, ?_⟩; replace HB := aB HB hb; (try clear hb); (try clear hb2); (try clear hk); (try clear hi)) | ((with_reducible refine gate_callee (f := 19) rfl ?_); refine goesL_ (some 13) rfl rfl Tryd.func19 (by kernel_rfl) rfl #[.slice A0 l0.length c0] rfl bM ?_; (with_reducible refine (ferrulelaw02_short.calls k _ _ l0 true _ ?side1 ?side2 A5.out).mono ?_); (case side1 => exact sW (Kd.C_below HR0.out HB.out)); (case side2 => exact HC0.out); rintro e w' ⟨rfl, ⟨nd, rfl⟩⟩; refine ⟨_, rfl, ?_⟩) | ((with_reducible refine gate_callee (f := 39) rfl ?_); refine goesL_ (some 16) rfl rfl Tryd.func39 (by kernel_rfl) rfl #[.slice A0 l0.length c0] rfl bM ?_; (with_reducible refine (ident_Text.calls _ _ l0 t103 _ ?side1 ?side2 A7.out).mono ?_); (case side1 => exact sW (Kd.C_below HR0.out bB)); (case side2 => exact HC0.out); rintro e w11 ⟨rfl, hb⟩; refine ⟨_, rfl, ?_⟩; replace HB := aB HB hb; (try clear hb); (try clear hb2); (try clear hk); (try clear hi)) | ((with_reducible refine gate_callee (f := 40) rfl ?_); refine goesL_ (some 19) rfl rfl Tryd.func40 (by kernel_rfl) rfl #[.slice A0 l0.length c0, .bool a1] rfl bM ?_; (with_reducible refine (ident_Good.calls k _ _ l0 a1 t104 _ ?side1 ?side2 A8.out).mono ?_); (case side1 => exact sW (Kd.C_below HR0.out HB.out)); (case side2 => exact HC0.out); rintro e w12 ⟨rfl, hb⟩; refine ⟨_, rfl, ?_⟩; replace HB := aB HB hb; (try clear hb); (try clear hb2); (try clear hk); (try clear hi)))
   (try simp only [Act.put, List.setIfInBounds_toArray, List.set_cons_zero, List.set_cons_succ])
   go_cut [30] (fun v30 wc => ∃ (kq : Nat) (x30_8 : Bool), v30 = .bool x30_8 ∧ Aside0 (ferrulelaw02_IdentGood.j0 kq l0 a1 t103 t104 x30_8 = some r) ∧ Aside0 (kq ≤ k) ∧ Aside0 (Below w.heap.size w wc))
   case first =>
    have H := HC9.out
    clear HC9
    replace H := Option.bind_eq_some_iff.mp H
    obtain ⟨t105, A130, H⟩ := H
    replace H : (if t103.toList = t105.toList then ((ferruleref02_Good.f k l0 a1).bind fun t106 => (ferrulelaw02_IdentGood.j0 k l0 a1 t103 t104 (t104 != t106))) else (ferrulelaw02_IdentGood.j0 k l0 a1 t103 t104 true)) = some r := H
    have A13 := Aside0.mk A130
    clear A130
    by_cases c14 : t103.toList = t105.toList
    ·rw [if_pos c14] at H
     have c14b0 : (t103.toList == t105.toList) = true := beq_iff_eq.mpr c14
     have c14b1 : (t103.toList != t105.toList) = false := bne_eq_false_iff_eq.mpr c14
     clear c14
     (first | rw [c14b0] | (simp only [i64_w, i32_w]; rw [c14b0]) | skip)
     replace H := Option.bind_eq_some_iff.mp H
     obtain ⟨t106, A150, H⟩ := H
     replace H : (ferrulelaw02_IdentGood.j0 k l0 a1 t103 t104 (t104 != t106)) = some r := H
     have A15 := Aside0.mk A150
     clear A150
     have H' := Aside0.mk H
     clear H
     go_wp2_with (first | ((with_reducible refine gate_callee (f := 41) rfl ?_); refine goesL_ (some 22) rfl rfl Tryd.func41 (by kernel_rfl) rfl #[.slice A0 l0.length c0] rfl bM ?_; (with_reducible refine (ferruleref02_Text.calls k _ _ l0 t105 _ ?side1 ?side2 A13.out).mono ?_); (case side1 => exact sW (Kd.C_below HR0.out HB.out)); (case side2 => exact HC0.out); rintro e w' ⟨rfl, ⟨nd, rfl⟩⟩; refine ⟨_, rfl, ?_⟩) | (go_at_call 42; (with_reducible refine (ferruleref02_Good.calls k _ _ l0 a1 t106 _ ?side1 ?side2 A15.out).mono ?_); (case side1 => exact sW (Kd.C_below HR0.out bB)); (case side2 => exact HC0.out); rintro e w' ⟨rfl, ⟨nd, rfl⟩⟩))
     go_meet
     case rel => exact ⟨_, ((t104 != t106)), bS, H', ⟨by first | omega | exact Nat.le_refl _⟩, ⟨bB⟩⟩
    ·rw [if_neg c14] at H
     have c14b0 : (t103.toList == t105.toList) = false := beq_eq_false_iff_ne.mpr c14
     have c14b1 : (t103.toList != t105.toList) = true := bne_iff_ne.mpr c14
     (first | rw [c14b0] | (simp only [i64_w, i32_w]; rw [c14b0]) | skip)
     have H' := Aside0.mk H
     clear H
     go_wp2_with (first | ((with_reducible refine gate_callee (f := 41) rfl ?_); refine goesL_ (some 22) rfl rfl Tryd.func41 (by kernel_rfl) rfl #[.slice A0 l0.length c0] rfl bM ?_; (with_reducible refine (ferruleref02_Text.calls k _ _ l0 t105 _ ?side1 ?side2 A13.out).mono ?_); (case side1 => exact sW (Kd.C_below HR0.out HB.out)); (case side2 => exact HC0.out); rintro e w' ⟨rfl, ⟨nd, rfl⟩⟩; refine ⟨_, rfl, ?_⟩))
     go_meet
     case rel => exact ⟨_, (true), bS, H', ⟨by first | omega | exact Nat.le_refl _⟩, ⟨bB⟩⟩
   case rest =>
    clear HC9
    try clear c1
    try clear p2
    try clear c3
    try clear c4
    try clear c6
    try clear p6
    try clear c11
    try clear c14
    try clear c14b0
    try clear c14b1
    obtain ⟨kq, x30_8, rfl, HA, HJ8, HB⟩ := hcut
    cases kq with
    | zero => exact absurd HA.out (by simp [ferrulelaw02_IdentGood.j0])
    | succ kj8 =>
     have H := HA.out
     clear HA
     simp only [ferrulelaw02_IdentGood.j0] at H
     by_cases c16 : x30_8 = true
     ·subst c16
      have H1 : (some false) = some r := by rw [if_pos rfl] at H; exact H
      clear H
      have H := H1
      clear H1
      obtain rfl := Option.some.inj H
      go_wp2
      go_ret
      exact ⟨by first | rfl | (simp [errW_none, errW_some] <;> rfl) | (simp [*, errW_none, errW_some] <;> rfl), bB⟩
     ·replace c16 := Bool.eq_false_iff.mpr c16
      subst c16
      have H1 : (if t104 = true then (ferrulelaw02_IdentGood.j1 kj8 l0 a1 t103 ((l0.length : Int) == 0)) else (ferrulelaw02_IdentGood.j1 kj8 l0 a1 t103 true)) = some r := by rw [if_neg (show ¬ (false = true) by decide)] at H; exact H
      clear H
      have H := H1
      clear H1
      have HC17 := Aside0.mk H
      clear H
      go_upto_region 9 with (fail)
      go_cut [37] (fun v37 wc => ∃ (kq : Nat) (x37_16 : Bool), v37 = .bool x37_16 ∧ Aside0 (ferrulelaw02_IdentGood.j1 kq l0 a1 t103 x37_16 = some r) ∧ Aside0 (kq ≤ kj8) ∧ Aside0 (Below w.heap.size w wc))
      case first =>
       have H := HC17.out
       clear HC17
       by_cases c18 : t104 = true
       ·subst c18
        have H1 : (ferrulelaw02_IdentGood.j1 kj8 l0 a1 t103 ((l0.length : Int) == 0)) = some r := by rw [if_pos rfl] at H; exact H
        clear H
        have H := H1
        clear H1
        have H' := Aside0.mk H
        clear H
        go_wp2
        go_meet
        case rel => exact ⟨_, (((l0.length : Int) == 0)), bS, H', ⟨by have := HJ8.out; first | omega | exact Nat.le_refl _⟩, ⟨bB⟩⟩
       ·replace c18 := Bool.eq_false_iff.mpr c18
        subst c18
        have H1 : (ferrulelaw02_IdentGood.j1 kj8 l0 a1 t103 true) = some r := by rw [if_neg (show ¬ (false = true) by decide)] at H; exact H
        clear H
        have H := H1
        clear H1
        have H' := Aside0.mk H
        clear H
        go_wp2
        go_meet
        case rel => exact ⟨_, (true), bS, H', ⟨by have := HJ8.out; first | omega | exact Nat.le_refl _⟩, ⟨bB⟩⟩
      case rest =>
       clear HC17
       try clear c1
       try clear p2
       try clear c3
       try clear c4
       try clear c6
       try clear p6
       try clear c11
       try clear c14
       try clear c14b0
       try clear c14b1
       try clear c16
       try clear c18
       try clear p2
       try clear p6
       obtain ⟨kq, x37_16, rfl, HA, HJ16, HB⟩ := hcut
       cases kq with
       | zero => exact absurd HA.out (by simp [ferrulelaw02_IdentGood.j1])
       | succ kj16 =>
        have H := HA.out
        clear HA
        simp only [ferrulelaw02_IdentGood.j1] at H
        by_cases c19 : x37_16 = true
        ·subst c19
         have H1 : (some true) = some r := by rw [if_pos rfl] at H; exact H
         clear H
         have H := H1
         clear H1
         obtain rfl := Option.some.inj H
         go_wp2
         go_ret
         exact ⟨by first | rfl | (simp [errW_none, errW_some] <;> rfl) | (simp [*, errW_none, errW_some] <;> rfl), bB⟩
        ·replace c19 := Bool.eq_false_iff.mpr c19
         subst c19
         have H1 : (if t103.size + 1 ≤ 9223372036854775807 then ((ident_Row.f kj16 (bytesOf (t103 ++ (⟨#[43]⟩ : ByteArray))) 0 a1).bind fun bt109 => (if bt109.2.2 = 0 then (if bt109.2.1 = (t103.size : Int) then ((ferruleref02_Same.f kj16 l0 bt109.1).bind fun t114 => (some t114)) else (some false)) else (some false))) else (none)) = some r := by rw [if_neg (show ¬ (false = true) by decide)] at H; exact H
         clear H
         have H := H1
         clear H1
         by_cases c20 : t103.size + 1 ≤ 9223372036854775807
         ·rw [if_pos c20] at H
          have c20b0 := eq_true c20
          have c20b1 : decide (t103.size + 1 ≤ 9223372036854775807) = true := decide_eq_true c20
          try have c20b2 : (9223372036854775807 < t103.size + 1) = False := eq_false (Nat.not_lt.2 c20)
          obtain ⟨y107, hy107⟩ : ∃ y_ : List Int, y_ = (bytesOf (t103 ++ (⟨#[43]⟩ : ByteArray))) := ⟨_, rfl⟩
          replace H : ((ident_Row.f kj16 y107 0 a1).bind fun bt109 => (if bt109.2.2 = 0 then (if bt109.2.1 = (t103.size : Int) then ((ferruleref02_Same.f kj16 l0 bt109.1).bind fun t114 => (some t114)) else (some false)) else (some false))) = some r := by first | (rw [hy107]; with_reducible exact H) | (have H2_ := (Option.bind_some _ _).symm.trans H; rw [hy107]; with_reducible exact H2_) | (have H2_ := (Option.bind_some _ _).symm.trans H; with_reducible exact H2_) | with_reducible exact H | (rw [hy107]; exact H) | exact H
          have Ny107 := Aside0.mk hy107
          clear hy107
          replace H := Option.bind_eq_some_iff.mp H
          obtain ⟨⟨t109, t110, t111⟩, A210, H⟩ := H
          replace H : (if t111 = 0 then (if t110 = (t103.size : Int) then ((ferruleref02_Same.f kj16 l0 t109).bind fun t114 => (some t114)) else (some false)) else (some false)) = some r := H
          have A21 := Aside0.mk A210
          clear A210
          by_cases c22 : t111 = 0
          ·rw [if_pos c22] at H
           have c22b0 : (t111 == 0) = true := beq_iff_eq.mpr c22
           have c22b1 : (t111 != 0) = false := bne_eq_false_iff_eq.mpr c22
           clear c22
           by_cases c23 : t110 = (t103.size : Int)
           ·rw [if_pos c23] at H
            have c23b0 : (t110 == (t103.size : Int)) = true := beq_iff_eq.mpr c23
            have c23b1 : (t110 != (t103.size : Int)) = false := bne_eq_false_iff_eq.mpr c23
            clear c23
            replace H := Option.bind_eq_some_iff.mp H
            obtain ⟨t114, A240, H⟩ := H
            replace H : (some t114) = some r := H
            have A24 := Aside0.mk A240
            clear A240
            obtain rfl := Option.some.inj H
            go_wp2_with (first | ((with_reducible refine gate_dst (N := 41) rfl ?_); (try (refine gate_guard (by rfl) ?_; dsimp only)); refine Lab.bytes_event (N := 41) (s := (t103 ++ (⟨#[43]⟩ : ByteArray))) (x := .tmp 40) ?hg ?hd ?ho ?hx Tryd.underlying9 Tryd.underlying22 Tryd.underlying5 ?hz ?_; (case hd => rfl); (case hg => rfl); (case ho => rfl); (case hx => first | rfl | (simp; done)); (case hz => first | exact oD | (simp; done) | (rw [ByteArray.size_append]; first | assumption | exact of_decide_eq_true (by assumption))); intro Az108 cz108 w25 hC_ hR_ hb; rw [← Ny107.out] at hC_ hR_; (try rw [← Ny107.out]); replace HB := aB HB hb; have HR108 := Aside0.mk hC_; have HC108 := Aside0.mk hR_; (try clear hb); (try clear hC_); (try clear hR_)) | ((with_reducible refine gate_callee (f := 15) rfl ?_); refine goesL_ (some 43) rfl rfl Tryd.func15 (by kernel_rfl) rfl #[.slice Az108 y107.length cz108, .int .i64 0, .bool a1] rfl bM ?_; (with_reducible refine (ident_Row.calls kj16 _ _ y107 0 a1 t109 t110 t111 _ ?side1 ?side2 A21.out).mono ?_); (case side1 => exact aCw HR108); (case side2 => exact HC108.out); rintro e w26 ⟨v112, rfl, ho0, hb⟩; refine ⟨_, rfl, ?_⟩; have HO113 := aL ho0 HB; replace HR108 := aC HR108 hb; replace HB := aB HB hb; (try clear hb); (try clear hb2); (try clear hk); (try clear hi); (try clear ho0); obtain ⟨Ao27, co27, eo27⟩ := Kd.R_slice HO113.out; subst eo27) | (go_at_call 17; (with_reducible refine (ferruleref02_Same.calls kj16 _ _ l0 _ _ t109 t114 _ ?side1 ?side2 ?side3 ?side4 A24.out).mono ?_); (case side1 => exact sW (Kd.C_below HR0.out HB.out)); (case side2 => exact HC0.out); (case side3 => exact sW (Kd.R_reads' HO113.out).2.2); (case side4 => exact (Kd.R_reads' HO113.out).2.1); rintro e w' ⟨rfl, ⟨nd, rfl⟩⟩))
            go_ret
            exact ⟨by first | rfl | (simp [errW_none, errW_some] <;> rfl) | (simp [*, errW_none, errW_some] <;> rfl), bB⟩
           ·rw [if_neg c23] at H
            have c23b0 : (t110 == (t103.size : Int)) = false := beq_eq_false_iff_ne.mpr c23
            have c23b1 : (t110 != (t103.size : Int)) = true := bne_iff_ne.mpr c23
            obtain rfl := Option.some.inj H
            go_wp2_with (first | ((with_reducible refine gate_dst (N := 41) rfl ?_); (try (refine gate_guard (by rfl) ?_; dsimp only)); refine Lab.bytes_event (N := 41) (s := (t103 ++ (⟨#[43]⟩ : ByteArray))) (x := .tmp 40) ?hg ?hd ?ho ?hx Tryd.underlying9 Tryd.underlying22 Tryd.underlying5 ?hz ?_; (case hd => rfl); (case hg => rfl); (case ho => rfl); (case hx => first | rfl | (simp; done)); (case hz => first | exact oD | (simp; done) | (rw [ByteArray.size_append]; first | assumption | exact of_decide_eq_true (by assumption))); intro Az108 cz108 w28 hC_ hR_ hb; rw [← Ny107.out] at hC_ hR_; (try rw [← Ny107.out]); replace HB := aB HB hb; have HR108 := Aside0.mk hC_; have HC108 := Aside0.mk hR_; (try clear hb); (try clear hC_); (try clear hR_)) | ((with_reducible refine gate_callee (f := 15) rfl ?_); refine goesL_ (some 43) rfl rfl Tryd.func15 (by kernel_rfl) rfl #[.slice Az108 y107.length cz108, .int .i64 0, .bool a1] rfl bM ?_; (with_reducible refine (ident_Row.calls kj16 _ _ y107 0 a1 t109 t110 t111 _ ?side1 ?side2 A21.out).mono ?_); (case side1 => exact aCw HR108); (case side2 => exact HC108.out); rintro e w29 ⟨v112, rfl, ho0, hb⟩; refine ⟨_, rfl, ?_⟩; have HO113 := aL ho0 HB; replace HR108 := aC HR108 hb; replace HB := aB HB hb; (try clear hb); (try clear hb2); (try clear hk); (try clear hi); (try clear ho0)))
            go_ret
            exact ⟨by first | rfl | (simp [errW_none, errW_some] <;> rfl) | (simp [*, errW_none, errW_some] <;> rfl), bB⟩
          ·rw [if_neg c22] at H
           have c22b0 : (t111 == 0) = false := beq_eq_false_iff_ne.mpr c22
           have c22b1 : (t111 != 0) = true := bne_iff_ne.mpr c22
           obtain rfl := Option.some.inj H
           go_wp2_with (first | ((with_reducible refine gate_dst (N := 41) rfl ?_); (try (refine gate_guard (by rfl) ?_; dsimp only)); refine Lab.bytes_event (N := 41) (s := (t103 ++ (⟨#[43]⟩ : ByteArray))) (x := .tmp 40) ?hg ?hd ?ho ?hx Tryd.underlying9 Tryd.underlying22 Tryd.underlying5 ?hz ?_; (case hd => rfl); (case hg => rfl); (case ho => rfl); (case hx => first | rfl | (simp; done)); (case hz => first | exact oD | (simp; done) | (rw [ByteArray.size_append]; first | assumption | exact of_decide_eq_true (by assumption))); intro Az108 cz108 w30 hC_ hR_ hb; rw [← Ny107.out] at hC_ hR_; (try rw [← Ny107.out]); replace HB := aB HB hb; have HR108 := Aside0.mk hC_; have HC108 := Aside0.mk hR_; (try clear hb); (try clear hC_); (try clear hR_)) | ((with_reducible refine gate_callee (f := 15) rfl ?_); refine goesL_ (some 43) rfl rfl Tryd.func15 (by kernel_rfl) rfl #[.slice Az108 y107.length cz108, .int .i64 0, .bool a1] rfl bM ?_; (with_reducible refine (ident_Row.calls kj16 _ _ y107 0 a1 t109 t110 t111 _ ?side1 ?side2 A21.out).mono ?_); (case side1 => exact aCw HR108); (case side2 => exact HC108.out); rintro e w31 ⟨v112, rfl, ho0, hb⟩; refine ⟨_, rfl, ?_⟩; have HO113 := aL ho0 HB; replace HR108 := aC HR108 hb; replace HB := aB HB hb; (try clear hb); (try clear hb2); (try clear hk); (try clear hi); (try clear ho0)))
           go_ret
           exact ⟨by first | rfl | (simp [errW_none, errW_some] <;> rfl) | (simp [*, errW_none, errW_some] <;> rfl), bB⟩
         ·rw [if_neg c20] at H
          exact absurd H (by simp)
  ·replace c6 := Bool.eq_false_iff.mpr c6
   subst c6
   have H1 : (some true) = some r := by rw [if_neg (show ¬ (false = true) by decide)] at H; exact H
   clear H
   have H := H1
   clear H1
   obtain rfl := Option.some.inj H
   go_enter Tryd.func11, Tryd.ntmps11
   go_wp2_with (first | ((with_reducible refine gate_callee (f := 14) rfl ?_); refine goesL_ (some 10) rfl rfl Tryd.func14 (by kernel_rfl) rfl #[] rfl bM ?_; (with_reducible refine (ferrulelaw02_awake.calls k  true _ A3.out).mono ?_); rintro e w32 ⟨rfl, hb⟩; refine ⟨_, rfl, ?_⟩; replace HB := aB HB hb; (try clear hb); (try clear hb2); (try clear hk); (try clear hi)) | ((with_reducible refine gate_callee (f := 19) rfl ?_); refine goesL_ (some 13) rfl rfl Tryd.func19 (by kernel_rfl) rfl #[.slice A0 l0.length c0] rfl bM ?_; (with_reducible refine (ferrulelaw02_short.calls k _ _ l0 false _ ?side1 ?side2 A5.out).mono ?_); (case side1 => exact sW (Kd.C_below HR0.out HB.out)); (case side2 => exact HC0.out); rintro e w' ⟨rfl, ⟨nd, rfl⟩⟩; refine ⟨_, rfl, ?_⟩))
   go_ret
   exact ⟨by first | rfl | (simp [errW_none, errW_some] <;> rfl) | (simp [*, errW_none, errW_some] <;> rfl), bB⟩
 ·replace c4 := Bool.eq_false_iff.mpr c4
  subst c4
  have H1 : (some false) = some r := by rw [if_neg (show ¬ (false = true) by decide)] at H; exact H
  clear H
  have H := H1
  clear H1
  obtain rfl := Option.some.inj H
  go_enter Tryd.func11, Tryd.ntmps11
  go_wp2_with (first | ((with_reducible refine gate_callee (f := 14) rfl ?_); refine goesL_ (some 10) rfl rfl Tryd.func14 (by kernel_rfl) rfl #[] rfl bM ?_; (with_reducible refine (ferrulelaw02_awake.calls k  false _ A3.out).mono ?_); rintro e w33 ⟨rfl, hb⟩; refine ⟨_, rfl, ?_⟩; replace HB := aB HB hb; (try clear hb); (try clear hb2); (try clear hk); (try clear hi)))
  go_ret
  exact ⟨by first | rfl | (simp [errW_none, errW_some] <;> rfl) | (simp [*, errW_none, errW_some] <;> rfl), bB⟩

def ferrulelaw02_IdentGood.Pure : Prop := ∀ (l0 : List ByteArray) (a1 : Bool), (fun l : (List ByteArray) => l.length ≤ maxLen ∧ ∀ x ∈ l, (fun s : ByteArray => s.size ≤ maxLen) x) l0 → ∃ k, ferrulelaw02_IdentGood.f k l0 a1 = some true

end Go.Proofs.YtildmfegfkiknaaDoor.X
