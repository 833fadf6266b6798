-- Written by a program of this session (wip/xp), out of the translation. Not trusted: Lean checks it.
import Derived.Test.YtaocceijkiiciaaDoorTab
import Derived.Test.YtaocceijkiiciaaDoorX0
import Derived.Test.YtaocceijkiiciaaDoorXn11
import Derived.Test.YtaocceijkiiciaaDoorXn7
import Derived.Test.YtaocceijkiiciaaDoorXn8
import Derived.Test.YtaocceijkiiciaaDoorXn9
import Derived.Test.YtaocceijkiiciaaDoorXn10
-- shrunk
namespace Go.Proofs.YtaocceijkiiciaaDoor.X
open Go.RowKit Go.Proofs.YtaocceijkiiciaaDoorW.PrintWords Go.Proofs.YtaocceijkiiciaaDoorW.PrintLast Go.Proofs.YtaocceijkiiciaaDoorW.PrintMore
attribute [local go_sem] Lab.str_gtr Lab.str_leq Lab.str_geq max2_int min2_int max_two min_two max_three min_three max_four min_four   -- for this text's walks alone
set_option linter.unusedVariables false
set_option linter.unusedSimpArgs false

/-! ### ferrulelaw01_NumTexts: function 3 -/
mutual
def ferrulelaw01_NumTexts.j0 : Nat → Int → Int → ByteArray → Bool → Option (Bool)
 | 0, _, _, _, _ => none
 | k + 1, x0, x1, x5, x21 => if x21 = true then (some false) else (if x1 ≥ 48 then (ferrulelaw01_NumTexts.j1 k x0 x1 x5 (decide (x1 ≤ 57))) else (ferrulelaw01_NumTexts.j1 k x0 x1 x5 false))
def ferrulelaw01_NumTexts.j1 : Nat → Int → Int → ByteArray → Bool → Option (Bool)
 | 0, _, _, _, _ => none
 | k + 1, x0, x1, x5, x27 => if x27 = true then (some true) else ((some (bytesOf x5 : List Int)).bind fun y105 => (if y105.length + 1 ≤ 140737488355328 then ((num_Parse.f k (y105 ++ [x1]) 0).bind fun bt109 => (if x0 > 9223372036854775807 then (if bt109.2.2 = 4 then (if bt109.1 = 0 then (some (bt109.2.1 == 0)) else (some false)) else (some false)) else (if bt109.2.2 = 0 then (if bt109.1 = x0 then (some (bt109.2.1 == (x5.size : Int))) else (some false)) else (some false)))) else (none)))
end
def ferrulelaw01_NumTexts.f (k : Nat) (a0 : Int) (a1 : Int) : Option (Bool) := (ferrulelaw01_awake.f k).bind fun t101 => (if t101 = true then ((num_Text.f a0).bind fun t102 => ((ferruleref01_Text.f k a0).bind fun t103 => (if t102.toList = t103.toList then ((num_Is.f k t102).bind fun t104 => (ferrulelaw01_NumTexts.j0 k a0 a1 t102 (!t104))) else (ferrulelaw01_NumTexts.j0 k a0 a1 t102 true)))) else (some false))
theorem ferrulelaw01_NumTexts.mono_l : ∀ k, (∀ y0 y1 y2 y3, LeO (ferrulelaw01_NumTexts.j0 k y0 y1 y2 y3) (ferrulelaw01_NumTexts.j0 (k + 1) y0 y1 y2 y3)) ∧ (∀ y0 y1 y2 y3, LeO (ferrulelaw01_NumTexts.j1 k y0 y1 y2 y3) (ferrulelaw01_NumTexts.j1 (k + 1) y0 y1 y2 y3))
 | 0 => ⟨fun _ _ _ _ r h => by simp [ferrulelaw01_NumTexts.j0] at h, fun _ _ _ _ r h => by simp [ferrulelaw01_NumTexts.j1] at h⟩
 | k + 1 => by
  obtain ⟨ih0, ih1⟩ := ferrulelaw01_NumTexts.mono_l k
  refine ⟨?_, ?_⟩
  ·intro y0 y1 y2 y3
   unfold ferrulelaw01_NumTexts.j0
   repeat' first
   | (with_reducible exact ih0 _ _ _ _)
   | (with_reducible exact ih1 _ _ _ _)
   | (with_reducible exact ferrulelaw01_awake.mono _)
   | (with_reducible exact ferruleref01_Text.mono _ _)
   | (with_reducible exact num_Is.mono _ _)
   | (with_reducible exact num_Parse.mono _ _ _)
   | (with_reducible exact LeO.refl _)
   | (with_reducible exact LeO.none _)
   | (with_reducible refine LeO.ite ?_ ?_)
   | (with_reducible refine LeO.bind ?_ (fun _ => ?_))
   | exact ih0 _ _ _ _
   | exact ih1 _ _ _ _
   | exact ferrulelaw01_awake.mono _
   | exact ferruleref01_Text.mono _ _
   | exact num_Is.mono _ _
   | exact num_Parse.mono _ _ _
   | exact LeO.none _
   | refine LeO.ite ?_ ?_
   | refine LeO.bind ?_ (fun _ => ?_)
  ·intro y0 y1 y2 y3
   unfold ferrulelaw01_NumTexts.j1
   repeat' first
   | (with_reducible exact ih0 _ _ _ _)
   | (with_reducible exact ih1 _ _ _ _)
   | (with_reducible exact ferrulelaw01_awake.mono _)
   | (with_reducible exact ferruleref01_Text.mono _ _)
   | (with_reducible exact num_Is.mono _ _)
   | (with_reducible exact num_Parse.mono _ _ _)
   | (with_reducible exact LeO.refl _)
   | (with_reducible exact LeO.none _)
   | (with_reducible refine LeO.ite ?_ ?_)
   | (with_reducible refine LeO.bind ?_ (fun _ => ?_))
   | exact ih0 _ _ _ _
   | exact ih1 _ _ _ _
   | exact ferrulelaw01_awake.mono _
   | exact ferruleref01_Text.mono _ _
   | exact num_Is.mono _ _
   | exact num_Parse.mono _ _ _
   | exact LeO.none _
   | refine LeO.ite ?_ ?_
   | refine LeO.bind ?_ (fun _ => ?_)
theorem ferrulelaw01_NumTexts.mono : ∀ a0 a1 k, LeO (ferrulelaw01_NumTexts.f k a0 a1) (ferrulelaw01_NumTexts.f (k + 1) a0 a1) := by
 intro a0 a1 k
 obtain ⟨ih0, ih1⟩ := ferrulelaw01_NumTexts.mono_l k
 unfold ferrulelaw01_NumTexts.f
 repeat' first
   | (with_reducible exact ih0 _ _ _ _)
   | (with_reducible exact ih1 _ _ _ _)
   | (with_reducible exact ferrulelaw01_awake.mono _)
   | (with_reducible exact ferruleref01_Text.mono _ _)
   | (with_reducible exact num_Is.mono _ _)
   | (with_reducible exact num_Parse.mono _ _ _)
   | (with_reducible exact LeO.refl _)
   | (with_reducible exact LeO.none _)
   | (with_reducible refine LeO.ite ?_ ?_)
   | (with_reducible refine LeO.bind ?_ (fun _ => ?_))
   | exact ih0 _ _ _ _
   | exact ih1 _ _ _ _
   | exact ferrulelaw01_awake.mono _
   | exact ferruleref01_Text.mono _ _
   | exact num_Is.mono _ _
   | exact num_Parse.mono _ _ _
   | exact LeO.none _
   | refine LeO.ite ?_ ?_
   | refine LeO.bind ?_ (fun _ => ?_)
set_option maxHeartbeats 8000000 in
set_option maxRecDepth 100000 in
theorem ferrulelaw01_NumTexts.calls (k : Nat) (a0 : Int) (a1 : Int) (r : Bool) (w : World) (h : ferrulelaw01_NumTexts.f k a0 a1 = some r) (TT : Tab w) :
  Calls Tryd.prog 3 #[.int .u64 a0, .int .u8 a1] w fun e w' => e = .returned (.bool r) ∧ Below w.heap.size w w' := by
 have HB := Aside0.mk (Below.refl w.heap.size w)
 have H : ((ferrulelaw01_awake.f k).bind fun t101 => (if t101 = true then ((num_Text.f a0).bind fun t102 => ((ferruleref01_Text.f k a0).bind fun t103 => (if t102.toList = t103.toList then ((num_Is.f k t102).bind fun t104 => (ferrulelaw01_NumTexts.j0 k a0 a1 t102 (!t104))) else (ferrulelaw01_NumTexts.j0 k a0 a1 t102 true)))) else (some false))) = some r := h
 clear h
 replace H := Option.bind_eq_some_iff.mp H
 obtain ⟨t101, A30, H⟩ := H
 replace H : (if t101 = true then ((num_Text.f a0).bind fun t102 => ((ferruleref01_Text.f k a0).bind fun t103 => (if t102.toList = t103.toList then ((num_Is.f k t102).bind fun t104 => (ferrulelaw01_NumTexts.j0 k a0 a1 t102 (!t104))) else (ferrulelaw01_NumTexts.j0 k a0 a1 t102 true)))) else (some false)) = some r := H
 have A3 := Aside0.mk A30
 clear A30
 by_cases c4 : t101 = true
 ·subst c4
  have H1 : ((num_Text.f a0).bind fun t102 => ((ferruleref01_Text.f k a0).bind fun t103 => (if t102.toList = t103.toList then ((num_Is.f k t102).bind fun t104 => (ferrulelaw01_NumTexts.j0 k a0 a1 t102 (!t104))) else (ferrulelaw01_NumTexts.j0 k a0 a1 t102 true)))) = some r := by rw [if_pos rfl] at H; exact H
  clear H
  have H := H1
  clear H1
  replace H := Option.bind_eq_some_iff.mp H
  obtain ⟨t102, A50, H⟩ := H
  replace H : ((ferruleref01_Text.f k a0).bind fun t103 => (if t102.toList = t103.toList then ((num_Is.f k t102).bind fun t104 => (ferrulelaw01_NumTexts.j0 k a0 a1 t102 (!t104))) else (ferrulelaw01_NumTexts.j0 k a0 a1 t102 true))) = some r := H
  have A5 := Aside0.mk A50
  clear A50
  have HC6 := Aside0.mk H
  clear H
  go_enter Tryd.func3, Tryd.ntmps3
  go_upto_region 4 with (first | ((with_reducible refine gate_callee (f := 7) rfl ?_); refine goesL_ (some 9) rfl rfl Tryd.func7 (by kernel_rfl) rfl #[] rfl bM ?_; (with_reducible refine (ferrulelaw01_awake.calls k  true _ A3.out).mono ?_); rintro e w7 ⟨rfl, hb⟩; refine ⟨_, rfl, ?_⟩; replace HB := aB HB hb; (try clear hb); (try clear hb2); (try clear hk); (try clear hi)) | ((with_reducible refine gate_callee (f := 8) rfl ?_); refine goesL_ (some 12) rfl rfl Tryd.func8 (by kernel_rfl) rfl #[.int .u64 a0] rfl bM ?_; (with_reducible refine (num_Text.calls a0 t102 _ A5.out (tB TT HB)).mono ?_); rintro e w8 ⟨rfl, hb⟩; refine ⟨_, rfl, ?_⟩; replace HB := aB HB hb; (try clear hb); (try clear hb2); (try clear hk); (try clear hi)))
  (try simp only [Act.put, List.setIfInBounds_toArray, List.set_cons_zero, List.set_cons_succ])
  go_cut [21] (fun v21 wc => ∃ (kq : Nat) (x21_5 : Bool), v21 = .bool x21_5 ∧ Aside0 (ferrulelaw01_NumTexts.j0 kq a0 a1 t102 x21_5 = some r) ∧ Aside0 (kq ≤ k) ∧ Aside0 (Below w.heap.size w wc))
  case first =>
   have H := HC6.out
   clear HC6
   replace H := Option.bind_eq_some_iff.mp H
   obtain ⟨t103, A90, H⟩ := H
   replace H : (if t102.toList = t103.toList then ((num_Is.f k t102).bind fun t104 => (ferrulelaw01_NumTexts.j0 k a0 a1 t102 (!t104))) else (ferrulelaw01_NumTexts.j0 k a0 a1 t102 true)) = some r := H
   have A9 := Aside0.mk A90
   clear A90
   by_cases c10 : t102.toList = t103.toList
   ·rw [if_pos c10] at H
    have c10b0 : (t102.toList == t103.toList) = true := beq_iff_eq.mpr c10
    have c10b1 : (t102.toList != t103.toList) = false := bne_eq_false_iff_eq.mpr c10
    clear c10
    (first | rw [c10b0] | (simp only [i64_w, i32_w]; rw [c10b0]) | skip)
    replace H := Option.bind_eq_some_iff.mp H
    obtain ⟨t104, A110, H⟩ := H
    replace H : (ferrulelaw01_NumTexts.j0 k a0 a1 t102 (!t104)) = some r := H
    have A11 := Aside0.mk A110
    clear A110
    have H' := Aside0.mk H
    clear H
    go_wp2_with (first | ((with_reducible refine gate_callee (f := 9) rfl ?_); refine goesL_ (some 15) rfl rfl Tryd.func9 (by kernel_rfl) rfl #[.int .u64 a0] rfl bM ?_; (with_reducible refine (ferruleref01_Text.calls k a0 t103 _ A9.out).mono ?_); rintro e w12 ⟨rfl, hb⟩; refine ⟨_, rfl, ?_⟩; replace HB := aB HB hb; (try clear hb); (try clear hb2); (try clear hk); (try clear hi)) | (go_at_call 10; (with_reducible refine (num_Is.calls k t102 t104 _ A11.out).mono ?_); rintro e w' ⟨rfl, ⟨nd, rfl⟩⟩))
    go_meet
    case rel => exact ⟨_, (!t104), bS, H', ⟨by first | omega | exact Nat.le_refl _⟩, ⟨bB⟩⟩
   ·rw [if_neg c10] at H
    have c10b0 : (t102.toList == t103.toList) = false := beq_eq_false_iff_ne.mpr c10
    have c10b1 : (t102.toList != t103.toList) = true := bne_iff_ne.mpr c10
    (first | rw [c10b0] | (simp only [i64_w, i32_w]; rw [c10b0]) | skip)
    have H' := Aside0.mk H
    clear H
    go_wp2_with (first | ((with_reducible refine gate_callee (f := 9) rfl ?_); refine goesL_ (some 15) rfl rfl Tryd.func9 (by kernel_rfl) rfl #[.int .u64 a0] rfl bM ?_; (with_reducible refine (ferruleref01_Text.calls k a0 t103 _ A9.out).mono ?_); rintro e w13 ⟨rfl, hb⟩; refine ⟨_, rfl, ?_⟩; replace HB := aB HB hb; (try clear hb); (try clear hb2); (try clear hk); (try clear hi)))
    go_meet
    case rel => exact ⟨_, (true), bS, H', ⟨by first | omega | exact Nat.le_refl _⟩, ⟨bB⟩⟩
  case rest =>
   clear HC6
   try clear c1
   try clear p2
   try clear c3
   try clear c4
   try clear p6
   try clear c7
   try clear c8
   try clear c9
   try clear c10
   try clear c10b0
   try clear c10b1
   obtain ⟨kq, x21_5, rfl, HA, HJ5, HB⟩ := hcut
   cases kq with
   | zero => exact absurd HA.out (by simp [ferrulelaw01_NumTexts.j0])
   | succ kj5 =>
    have H := HA.out
    clear HA
    simp only [ferrulelaw01_NumTexts.j0] at H
    by_cases c14 : x21_5 = true
    ·subst c14
     have H1 : (some false) = some r := by rw [if_pos rfl] at H; exact H
     clear H
     have H := H1
     clear H1
     obtain rfl := Option.some.inj H
     go_wp2
     go_ret
     exact ⟨by first | rfl | (simp [errW_none, errW_some] <;> rfl) | (simp [*, errW_none, errW_some] <;> rfl), bB⟩
    ·replace c14 := Bool.eq_false_iff.mpr c14
     subst c14
     have H1 : (if a1 ≥ 48 then (ferrulelaw01_NumTexts.j1 kj5 a0 a1 t102 (decide (a1 ≤ 57))) else (ferrulelaw01_NumTexts.j1 kj5 a0 a1 t102 false)) = some r := by rw [if_neg (show ¬ (false = true) by decide)] at H; exact H
     clear H
     have H := H1
     clear H1
     have HC15 := Aside0.mk H
     clear H
     go_upto_region 6 with (fail)
     go_cut [27] (fun v27 wc => ∃ (kq : Nat) (x27_14 : Bool), v27 = .bool x27_14 ∧ Aside0 (ferrulelaw01_NumTexts.j1 kq a0 a1 t102 x27_14 = some r) ∧ Aside0 (kq ≤ kj5) ∧ Aside0 (Below w.heap.size w wc))
     case first =>
      have H := HC15.out
      clear HC15
      by_cases c16 : a1 ≥ 48
      ·rw [if_pos c16] at H
       have c16b0 : decide (48 ≤ a1) = true := decide_eq_true c16
       clear c16
       (first | rw [c16b0] | (simp only [i64_w, i32_w]; rw [c16b0]) | skip)
       have H' := Aside0.mk H
       clear H
       go_wp2
       go_meet
       case rel => exact ⟨_, (decide (a1 ≤ 57)), bS, H', ⟨by have := HJ5.out; first | omega | exact Nat.le_refl _⟩, ⟨bB⟩⟩
      ·rw [if_neg c16] at H
       have c16b0 : decide (48 ≤ a1) = false := decide_eq_false c16
       clear c16
       (first | rw [c16b0] | (simp only [i64_w, i32_w]; rw [c16b0]) | skip)
       have H' := Aside0.mk H
       clear H
       go_wp2
       go_meet
       case rel => exact ⟨_, (false), bS, H', ⟨by have := HJ5.out; first | omega | exact Nat.le_refl _⟩, ⟨bB⟩⟩
     case rest =>
      clear HC15
      try clear c1
      try clear p2
      try clear c3
      try clear c4
      try clear p6
      try clear c7
      try clear c8
      try clear c9
      try clear c10
      try clear c10b0
      try clear c10b1
      try clear c14
      try clear c16
      try clear c16b0
      try clear p2
      try clear p6
      obtain ⟨kq, x27_14, rfl, HA, HJ14, HB⟩ := hcut
      cases kq with
      | zero => exact absurd HA.out (by simp [ferrulelaw01_NumTexts.j1])
      | succ kj14 =>
       have H := HA.out
       clear HA
       simp only [ferrulelaw01_NumTexts.j1] at H
       by_cases c17 : x27_14 = true
       ·subst c17
        have H1 : (some true) = some r := by rw [if_pos rfl] at H; exact H
        clear H
        have H := H1
        clear H1
        obtain rfl := Option.some.inj H
        go_wp2
        go_ret
        exact ⟨by first | rfl | (simp [errW_none, errW_some] <;> rfl) | (simp [*, errW_none, errW_some] <;> rfl), bB⟩
       ·replace c17 := Bool.eq_false_iff.mpr c17
        subst c17
        have H1 : ((some (bytesOf t102 : List Int)).bind fun y105 => (if y105.length + 1 ≤ 140737488355328 then ((num_Parse.f kj14 (y105 ++ [a1]) 0).bind fun bt109 => (if a0 > 9223372036854775807 then (if bt109.2.2 = 4 then (if bt109.1 = 0 then (some (bt109.2.1 == 0)) else (some false)) else (some false)) else (if bt109.2.2 = 0 then (if bt109.1 = a0 then (some (bt109.2.1 == (t102.size : Int))) else (some false)) else (some false)))) else (none))) = some r := by rw [if_neg (show ¬ (false = true) by decide)] at H; exact H
        clear H
        have H := H1
        clear H1
        obtain ⟨y105, hy105⟩ : ∃ y_ : List Int, y_ = (bytesOf t102) := ⟨_, rfl⟩
        replace H : (if y105.length + 1 ≤ 140737488355328 then ((num_Parse.f kj14 (y105 ++ [a1]) 0).bind fun bt109 => (if a0 > 9223372036854775807 then (if bt109.2.2 = 4 then (if bt109.1 = 0 then (some (bt109.2.1 == 0)) else (some false)) else (some false)) else (if bt109.2.2 = 0 then (if bt109.1 = a0 then (some (bt109.2.1 == (t102.size : Int))) else (some false)) else (some false)))) else (none)) = some r := by first | (rw [hy105]; with_reducible exact H) | (have H2_ := (Option.bind_some _ _).symm.trans H; rw [hy105]; with_reducible exact H2_) | (have H2_ := (Option.bind_some _ _).symm.trans H; with_reducible exact H2_) | with_reducible exact H | (rw [hy105]; exact H) | exact H
        have Ny105 := Aside0.mk hy105
        clear hy105
        by_cases c18 : y105.length + 1 ≤ 140737488355328
        ·rw [if_pos c18] at H
         have c18b0 := eq_true c18
         have c18b1 : decide (y105.length + 1 ≤ 140737488355328) = true := decide_eq_true c18
         obtain ⟨y107, hy107⟩ : ∃ y_ : List Int, y_ = (y105 ++ [a1]) := ⟨_, rfl⟩
         replace H : ((num_Parse.f kj14 y107 0).bind fun bt109 => (if a0 > 9223372036854775807 then (if bt109.2.2 = 4 then (if bt109.1 = 0 then (some (bt109.2.1 == 0)) else (some false)) else (some false)) else (if bt109.2.2 = 0 then (if bt109.1 = a0 then (some (bt109.2.1 == (t102.size : Int))) else (some false)) else (some false)))) = some r := by first | (rw [hy107]; with_reducible exact H) | (have H2_ := (Option.bind_some _ _).symm.trans H; rw [hy107]; with_reducible exact H2_) | (have H2_ := (Option.bind_some _ _).symm.trans H; with_reducible exact H2_) | with_reducible exact H | (rw [hy107]; exact H) | exact H
         have Ny107 := Aside0.mk hy107
         clear hy107
         replace H := Option.bind_eq_some_iff.mp H
         obtain ⟨⟨t109, t110, t111⟩, A190, H⟩ := H
         replace H : (if a0 > 9223372036854775807 then (if t111 = 4 then (if t109 = 0 then (some (t110 == 0)) else (some false)) else (some false)) else (if t111 = 0 then (if t109 = a0 then (some (t110 == (t102.size : Int))) else (some false)) else (some false))) = some r := H
         have A19 := Aside0.mk A190
         clear A190
         by_cases c20 : a0 > 9223372036854775807
         ·rw [if_pos c20] at H
          have c20b0 : decide (9223372036854775807 < a0) = true := decide_eq_true c20
          clear c20
          by_cases c21 : t111 = 4
          ·rw [if_pos c21] at H
           have c21b0 : (t111 == 4) = true := beq_iff_eq.mpr c21
           have c21b1 : (t111 != 4) = false := bne_eq_false_iff_eq.mpr c21
           clear c21
           by_cases c22 : t109 = 0
           ·rw [if_pos c22] at H
            have c22b0 : (t109 == 0) = true := beq_iff_eq.mpr c22
            have c22b1 : (t109 != 0) = false := bne_eq_false_iff_eq.mpr c22
            clear c22
            obtain rfl := Option.some.inj H
            go_wp2_with (first | ((with_reducible refine gate_dst (N := 30) rfl ?_); (try (refine gate_guard (by rfl) ?_; dsimp only)); refine Lab.raw_event (N := 30) (s := t102) (x := .tmp 29) ?hg ?hd ?ho ?hx Tryd.underlying9 Tryd.underlying29 Tryd.underlying5 ?_; (case hd => rfl); (case hg => rfl); (case ho => rfl); (case hx => first | rfl | (simp; done)); intro kz106 cz106 w23 hX_ hb; rw [← Ny105.out] at hX_; (try rw [← Ny105.out]); have HX106 := Aside0.mk (Lab.Raw.lower hX_ (below_size bB)); replace HB := aB HB hb; (try clear hb); (try clear hX_)) | ((with_reducible refine gate_builtin (b := .append) (xs := #[.tmp 30, .tmp 32]) rfl ?_); (try (refine gate_guard (by rfl) ?_; dsimp only)); at_builtin; refine Lab.put_event' (N := 33) (v := a1) (s := .tmp 30) (y := .tmp 32) (t := 29) HX106.out (below_size bB) ?hg ?hd ?ho ?hs ?hy Tryd.underlying29 (by kernel_rfl) oD ?_; (case hd => rfl); (case hg => rfl); (case ho => rfl); (case hs => first | rfl | (simp; done)); (case hy => first | rfl | (simp; done)); intro Az108 cz108 w24 hC_ hR_ hb; rw [← Ny107.out] at hC_ hR_; (try rw [← Ny107.out]); replace HB := Aside0.mk (hb _ bB); have HR108 := Aside0.mk hC_; have HC108 := Aside0.mk hR_; (try clear hb); (try clear hC_); (try clear hR_)) | ((with_reducible refine gate_callee (f := 11) rfl ?_); refine goesL_ (some 34) rfl rfl Tryd.func11 (by kernel_rfl) rfl #[.slice Az108 y107.length cz108, .int .i64 0] rfl bM ?_; (with_reducible refine (num_Parse.calls kj14 _ _ y107 0 t109 t110 t111 _ ?side1 ?side2 A19.out).mono ?_); (case side1 => exact aCw HR108); (case side2 => exact HC108.out); rintro e w' ⟨rfl, ⟨nd, rfl⟩⟩; refine ⟨_, rfl, ?_⟩))
            go_ret
            exact ⟨by first | rfl | (simp [errW_none, errW_some] <;> rfl) | (simp [*, errW_none, errW_some] <;> rfl), bB⟩
           ·rw [if_neg c22] at H
            have c22b0 : (t109 == 0) = false := beq_eq_false_iff_ne.mpr c22
            have c22b1 : (t109 != 0) = true := bne_iff_ne.mpr c22
            obtain rfl := Option.some.inj H
            go_wp2_with (first | ((with_reducible refine gate_dst (N := 30) rfl ?_); (try (refine gate_guard (by rfl) ?_; dsimp only)); refine Lab.raw_event (N := 30) (s := t102) (x := .tmp 29) ?hg ?hd ?ho ?hx Tryd.underlying9 Tryd.underlying29 Tryd.underlying5 ?_; (case hd => rfl); (case hg => rfl); (case ho => rfl); (case hx => first | rfl | (simp; done)); intro kz106 cz106 w25 hX_ hb; rw [← Ny105.out] at hX_; (try rw [← Ny105.out]); have HX106 := Aside0.mk (Lab.Raw.lower hX_ (below_size bB)); replace HB := aB HB hb; (try clear hb); (try clear hX_)) | ((with_reducible refine gate_builtin (b := .append) (xs := #[.tmp 30, .tmp 32]) rfl ?_); (try (refine gate_guard (by rfl) ?_; dsimp only)); at_builtin; refine Lab.put_event' (N := 33) (v := a1) (s := .tmp 30) (y := .tmp 32) (t := 29) HX106.out (below_size bB) ?hg ?hd ?ho ?hs ?hy Tryd.underlying29 (by kernel_rfl) oD ?_; (case hd => rfl); (case hg => rfl); (case ho => rfl); (case hs => first | rfl | (simp; done)); (case hy => first | rfl | (simp; done)); intro Az108 cz108 w26 hC_ hR_ hb; rw [← Ny107.out] at hC_ hR_; (try rw [← Ny107.out]); replace HB := Aside0.mk (hb _ bB); have HR108 := Aside0.mk hC_; have HC108 := Aside0.mk hR_; (try clear hb); (try clear hC_); (try clear hR_)) | ((with_reducible refine gate_callee (f := 11) rfl ?_); refine goesL_ (some 34) rfl rfl Tryd.func11 (by kernel_rfl) rfl #[.slice Az108 y107.length cz108, .int .i64 0] rfl bM ?_; (with_reducible refine (num_Parse.calls kj14 _ _ y107 0 t109 t110 t111 _ ?side1 ?side2 A19.out).mono ?_); (case side1 => exact aCw HR108); (case side2 => exact HC108.out); rintro e w' ⟨rfl, ⟨nd, rfl⟩⟩; refine ⟨_, rfl, ?_⟩))
            go_ret
            exact ⟨by first | rfl | (simp [errW_none, errW_some] <;> rfl) | (simp [*, errW_none, errW_some] <;> rfl), bB⟩
          ·rw [if_neg c21] at H
           have c21b0 : (t111 == 4) = false := beq_eq_false_iff_ne.mpr c21
           have c21b1 : (t111 != 4) = true := bne_iff_ne.mpr c21
           obtain rfl := Option.some.inj H
           go_wp2_with (first | ((with_reducible refine gate_dst (N := 30) rfl ?_); (try (refine gate_guard (by rfl) ?_; dsimp only)); refine Lab.raw_event (N := 30) (s := t102) (x := .tmp 29) ?hg ?hd ?ho ?hx Tryd.underlying9 Tryd.underlying29 Tryd.underlying5 ?_; (case hd => rfl); (case hg => rfl); (case ho => rfl); (case hx => first | rfl | (simp; done)); intro kz106 cz106 w27 hX_ hb; rw [← Ny105.out] at hX_; (try rw [← Ny105.out]); have HX106 := Aside0.mk (Lab.Raw.lower hX_ (below_size bB)); replace HB := aB HB hb; (try clear hb); (try clear hX_)) | ((with_reducible refine gate_builtin (b := .append) (xs := #[.tmp 30, .tmp 32]) rfl ?_); (try (refine gate_guard (by rfl) ?_; dsimp only)); at_builtin; refine Lab.put_event' (N := 33) (v := a1) (s := .tmp 30) (y := .tmp 32) (t := 29) HX106.out (below_size bB) ?hg ?hd ?ho ?hs ?hy Tryd.underlying29 (by kernel_rfl) oD ?_; (case hd => rfl); (case hg => rfl); (case ho => rfl); (case hs => first | rfl | (simp; done)); (case hy => first | rfl | (simp; done)); intro Az108 cz108 w28 hC_ hR_ hb; rw [← Ny107.out] at hC_ hR_; (try rw [← Ny107.out]); replace HB := Aside0.mk (hb _ bB); have HR108 := Aside0.mk hC_; have HC108 := Aside0.mk hR_; (try clear hb); (try clear hC_); (try clear hR_)) | ((with_reducible refine gate_callee (f := 11) rfl ?_); refine goesL_ (some 34) rfl rfl Tryd.func11 (by kernel_rfl) rfl #[.slice Az108 y107.length cz108, .int .i64 0] rfl bM ?_; (with_reducible refine (num_Parse.calls kj14 _ _ y107 0 t109 t110 t111 _ ?side1 ?side2 A19.out).mono ?_); (case side1 => exact aCw HR108); (case side2 => exact HC108.out); rintro e w' ⟨rfl, ⟨nd, rfl⟩⟩; refine ⟨_, rfl, ?_⟩))
           go_ret
           exact ⟨by first | rfl | (simp [errW_none, errW_some] <;> rfl) | (simp [*, errW_none, errW_some] <;> rfl), bB⟩
         ·rw [if_neg c20] at H
          have c20b0 : decide (9223372036854775807 < a0) = false := decide_eq_false c20
          clear c20
          by_cases c29 : t111 = 0
          ·rw [if_pos c29] at H
           have c29b0 : (t111 == 0) = true := beq_iff_eq.mpr c29
           have c29b1 : (t111 != 0) = false := bne_eq_false_iff_eq.mpr c29
           clear c29
           by_cases c30 : t109 = a0
           ·rw [if_pos c30] at H
            have c30b0 : (t109 == a0) = true := beq_iff_eq.mpr c30
            have c30b1 : (t109 != a0) = false := bne_eq_false_iff_eq.mpr c30
            clear c30
            obtain rfl := Option.some.inj H
            go_wp2_with (first | ((with_reducible refine gate_dst (N := 30) rfl ?_); (try (refine gate_guard (by rfl) ?_; dsimp only)); refine Lab.raw_event (N := 30) (s := t102) (x := .tmp 29) ?hg ?hd ?ho ?hx Tryd.underlying9 Tryd.underlying29 Tryd.underlying5 ?_; (case hd => rfl); (case hg => rfl); (case ho => rfl); (case hx => first | rfl | (simp; done)); intro kz106 cz106 w31 hX_ hb; rw [← Ny105.out] at hX_; (try rw [← Ny105.out]); have HX106 := Aside0.mk (Lab.Raw.lower hX_ (below_size bB)); replace HB := aB HB hb; (try clear hb); (try clear hX_)) | ((with_reducible refine gate_builtin (b := .append) (xs := #[.tmp 30, .tmp 32]) rfl ?_); (try (refine gate_guard (by rfl) ?_; dsimp only)); at_builtin; refine Lab.put_event' (N := 33) (v := a1) (s := .tmp 30) (y := .tmp 32) (t := 29) HX106.out (below_size bB) ?hg ?hd ?ho ?hs ?hy Tryd.underlying29 (by kernel_rfl) oD ?_; (case hd => rfl); (case hg => rfl); (case ho => rfl); (case hs => first | rfl | (simp; done)); (case hy => first | rfl | (simp; done)); intro Az108 cz108 w32 hC_ hR_ hb; rw [← Ny107.out] at hC_ hR_; (try rw [← Ny107.out]); replace HB := Aside0.mk (hb _ bB); have HR108 := Aside0.mk hC_; have HC108 := Aside0.mk hR_; (try clear hb); (try clear hC_); (try clear hR_)) | ((with_reducible refine gate_callee (f := 11) rfl ?_); refine goesL_ (some 34) rfl rfl Tryd.func11 (by kernel_rfl) rfl #[.slice Az108 y107.length cz108, .int .i64 0] rfl bM ?_; (with_reducible refine (num_Parse.calls kj14 _ _ y107 0 t109 t110 t111 _ ?side1 ?side2 A19.out).mono ?_); (case side1 => exact aCw HR108); (case side2 => exact HC108.out); rintro e w' ⟨rfl, ⟨nd, rfl⟩⟩; refine ⟨_, rfl, ?_⟩))
            go_ret
            exact ⟨by first | rfl | (simp [errW_none, errW_some] <;> rfl) | (simp [*, errW_none, errW_some] <;> rfl), bB⟩
           ·rw [if_neg c30] at H
            have c30b0 : (t109 == a0) = false := beq_eq_false_iff_ne.mpr c30
            have c30b1 : (t109 != a0) = true := bne_iff_ne.mpr c30
            obtain rfl := Option.some.inj H
            go_wp2_with (first | ((with_reducible refine gate_dst (N := 30) rfl ?_); (try (refine gate_guard (by rfl) ?_; dsimp only)); refine Lab.raw_event (N := 30) (s := t102) (x := .tmp 29) ?hg ?hd ?ho ?hx Tryd.underlying9 Tryd.underlying29 Tryd.underlying5 ?_; (case hd => rfl); (case hg => rfl); (case ho => rfl); (case hx => first | rfl | (simp; done)); intro kz106 cz106 w33 hX_ hb; rw [← Ny105.out] at hX_; (try rw [← Ny105.out]); have HX106 := Aside0.mk (Lab.Raw.lower hX_ (below_size bB)); replace HB := aB HB hb; (try clear hb); (try clear hX_)) | ((with_reducible refine gate_builtin (b := .append) (xs := #[.tmp 30, .tmp 32]) rfl ?_); (try (refine gate_guard (by rfl) ?_; dsimp only)); at_builtin; refine Lab.put_event' (N := 33) (v := a1) (s := .tmp 30) (y := .tmp 32) (t := 29) HX106.out (below_size bB) ?hg ?hd ?ho ?hs ?hy Tryd.underlying29 (by kernel_rfl) oD ?_; (case hd => rfl); (case hg => rfl); (case ho => rfl); (case hs => first | rfl | (simp; done)); (case hy => first | rfl | (simp; done)); intro Az108 cz108 w34 hC_ hR_ hb; rw [← Ny107.out] at hC_ hR_; (try rw [← Ny107.out]); replace HB := Aside0.mk (hb _ bB); have HR108 := Aside0.mk hC_; have HC108 := Aside0.mk hR_; (try clear hb); (try clear hC_); (try clear hR_)) | ((with_reducible refine gate_callee (f := 11) rfl ?_); refine goesL_ (some 34) rfl rfl Tryd.func11 (by kernel_rfl) rfl #[.slice Az108 y107.length cz108, .int .i64 0] rfl bM ?_; (with_reducible refine (num_Parse.calls kj14 _ _ y107 0 t109 t110 t111 _ ?side1 ?side2 A19.out).mono ?_); (case side1 => exact aCw HR108); (case side2 => exact HC108.out); rintro e w' ⟨rfl, ⟨nd, rfl⟩⟩; refine ⟨_, rfl, ?_⟩))
            go_ret
            exact ⟨by first | rfl | (simp [errW_none, errW_some] <;> rfl) | (simp [*, errW_none, errW_some] <;> rfl), bB⟩
          ·rw [if_neg c29] at H
           have c29b0 : (t111 == 0) = false := beq_eq_false_iff_ne.mpr c29
           have c29b1 : (t111 != 0) = true := bne_iff_ne.mpr c29
           obtain rfl := Option.some.inj H
           go_wp2_with (first | ((with_reducible refine gate_dst (N := 30) rfl ?_); (try (refine gate_guard (by rfl) ?_; dsimp only)); refine Lab.raw_event (N := 30) (s := t102) (x := .tmp 29) ?hg ?hd ?ho ?hx Tryd.underlying9 Tryd.underlying29 Tryd.underlying5 ?_; (case hd => rfl); (case hg => rfl); (case ho => rfl); (case hx => first | rfl | (simp; done)); intro kz106 cz106 w35 hX_ hb; rw [← Ny105.out] at hX_; (try rw [← Ny105.out]); have HX106 := Aside0.mk (Lab.Raw.lower hX_ (below_size bB)); replace HB := aB HB hb; (try clear hb); (try clear hX_)) | ((with_reducible refine gate_builtin (b := .append) (xs := #[.tmp 30, .tmp 32]) rfl ?_); (try (refine gate_guard (by rfl) ?_; dsimp only)); at_builtin; refine Lab.put_event' (N := 33) (v := a1) (s := .tmp 30) (y := .tmp 32) (t := 29) HX106.out (below_size bB) ?hg ?hd ?ho ?hs ?hy Tryd.underlying29 (by kernel_rfl) oD ?_; (case hd => rfl); (case hg => rfl); (case ho => rfl); (case hs => first | rfl | (simp; done)); (case hy => first | rfl | (simp; done)); intro Az108 cz108 w36 hC_ hR_ hb; rw [← Ny107.out] at hC_ hR_; (try rw [← Ny107.out]); replace HB := Aside0.mk (hb _ bB); have HR108 := Aside0.mk hC_; have HC108 := Aside0.mk hR_; (try clear hb); (try clear hC_); (try clear hR_)) | ((with_reducible refine gate_callee (f := 11) rfl ?_); refine goesL_ (some 34) rfl rfl Tryd.func11 (by kernel_rfl) rfl #[.slice Az108 y107.length cz108, .int .i64 0] rfl bM ?_; (with_reducible refine (num_Parse.calls kj14 _ _ y107 0 t109 t110 t111 _ ?side1 ?side2 A19.out).mono ?_); (case side1 => exact aCw HR108); (case side2 => exact HC108.out); rintro e w' ⟨rfl, ⟨nd, rfl⟩⟩; refine ⟨_, rfl, ?_⟩))
           go_ret
           exact ⟨by first | rfl | (simp [errW_none, errW_some] <;> rfl) | (simp [*, errW_none, errW_some] <;> rfl), bB⟩
        ·rw [if_neg c18] at H
         exact absurd H (by simp)
 ·replace c4 := Bool.eq_false_iff.mpr c4
  subst c4
  have H1 : (some false) = some r := by rw [if_neg (show ¬ (false = true) by decide)] at H; exact H
  clear H
  have H := H1
  clear H1
  obtain rfl := Option.some.inj H
  go_enter Tryd.func3, Tryd.ntmps3
  go_wp2_with (first | ((with_reducible refine gate_callee (f := 7) rfl ?_); refine goesL_ (some 9) rfl rfl Tryd.func7 (by kernel_rfl) rfl #[] rfl bM ?_; (with_reducible refine (ferrulelaw01_awake.calls k  false _ A3.out).mono ?_); rintro e w37 ⟨rfl, hb⟩; refine ⟨_, rfl, ?_⟩; replace HB := aB HB hb; (try clear hb); (try clear hb2); (try clear hk); (try clear hi)))
  go_ret
  exact ⟨by first | rfl | (simp [errW_none, errW_some] <;> rfl) | (simp [*, errW_none, errW_some] <;> rfl), bB⟩

def ferrulelaw01_NumTexts.Pure : Prop := ∀ (a0 : Int) (a1 : Int), (Lit.int .u64 a0).wf = true → (Lit.int .u8 a1).wf = true → ∃ k, ferrulelaw01_NumTexts.f k a0 a1 = some true

end Go.Proofs.YtaocceijkiiciaaDoor.X
