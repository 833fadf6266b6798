-- Written by a program of this session (wip/xp), out of the translation. Not trusted: Lean checks it.
import Derived.Test.YtildmfegfkiknaaDoorX0
import Derived.Test.YtildmfegfkiknaaDoorXm
-- shrunk
namespace Go.Proofs.YtildmfegfkiknaaDoor.X
open Go.RowKit Go.Proofs.YtildmfegfkiknaaDoorW.PrintWords Go.Proofs.YtildmfegfkiknaaDoorW.PrintLast Go.Proofs.YtildmfegfkiknaaDoorW.PrintMore
attribute [local go_sem] Lab.str_gtr Lab.str_leq Lab.str_geq max2_int min2_int max_two min_two max_three min_three max_four min_four   -- for this text's walks alone
set_option linter.unusedVariables false
set_option linter.unusedSimpArgs false

/-! ### ident_Compare: function 18 -/
mutual
def ident_Compare.j0 : Nat → ByteArray → ByteArray → Bool → Bool → Bool → Option (Int)
 | 0, _, _, _, _, _ => none
 | k + 1, x0, x1, x5, x6, x15 => if x15 = true then (some (-1)) else (if x6 = true then (ident_Compare.j1 k x0 x1 x5 (!x5)) else (ident_Compare.j1 k x0 x1 x5 false))
def ident_Compare.j1 : Nat → ByteArray → ByteArray → Bool → Bool → Option (Int)
 | 0, _, _, _, _ => none
 | k + 1, x0, x1, x5, x21 => if x21 = true then (some 1) else (if x5 = true then ((strings_TrimLeft.f x0 (⟨#[48]⟩ : ByteArray)).bind fun t104 => ((strings_TrimLeft.f x1 (⟨#[48]⟩ : ByteArray)).bind fun t105 => ((ident_sign.f (wrap64 ((t104.size : Int) - (t105.size : Int)))).bind fun t106 => (if t106 = 0 then ((strings_Compare.f t104 t105).bind fun t107 => (if t107 = 0 then ((ident_sign.f (wrap64 ((x0.size : Int) - (x1.size : Int)))).bind fun t108 => (some t108)) else (some t107))) else (some t106))))) else ((strings_Compare.f x0 x1).bind fun t103 => (some t103)))
end
def ident_Compare.f (k : Nat) (a0 : ByteArray) (a1 : ByteArray) : Option (Int) := (ident_numeric.f a0).bind fun t101 => ((ident_numeric.f a1).bind fun t102 => (if t101 = true then (ident_Compare.j0 k a0 a1 t101 t102 (!t102)) else (ident_Compare.j0 k a0 a1 t101 t102 false)))
theorem ident_Compare.mono_l : ∀ k, (∀ y0 y1 y2 y3 y4, LeO (ident_Compare.j0 k y0 y1 y2 y3 y4) (ident_Compare.j0 (k + 1) y0 y1 y2 y3 y4)) ∧ (∀ y0 y1 y2 y3, LeO (ident_Compare.j1 k y0 y1 y2 y3) (ident_Compare.j1 (k + 1) y0 y1 y2 y3))
 | 0 => ⟨fun _ _ _ _ _ r h => by simp [ident_Compare.j0] at h, fun _ _ _ _ r h => by simp [ident_Compare.j1] at h⟩
 | k + 1 => by
  obtain ⟨ih0, ih1⟩ := ident_Compare.mono_l k
  refine ⟨?_, ?_⟩
  ·intro y0 y1 y2 y3 y4
   unfold ident_Compare.j0
   repeat' first
   | (with_reducible exact ih0 _ _ _ _ _)
   | (with_reducible exact ih1 _ _ _ _)
   | (with_reducible exact LeO.refl _)
   | (with_reducible exact LeO.none _)
   | (with_reducible refine LeO.ite ?_ ?_)
   | (with_reducible refine LeO.bind ?_ (fun _ => ?_))
   | exact ih0 _ _ _ _ _
   | exact ih1 _ _ _ _
   | exact LeO.none _
   | refine LeO.ite ?_ ?_
   | refine LeO.bind ?_ (fun _ => ?_)
  ·intro y0 y1 y2 y3
   unfold ident_Compare.j1
   repeat' first
   | (with_reducible exact ih0 _ _ _ _ _)
   | (with_reducible exact ih1 _ _ _ _)
   | (with_reducible exact LeO.refl _)
   | (with_reducible exact LeO.none _)
   | (with_reducible refine LeO.ite ?_ ?_)
   | (with_reducible refine LeO.bind ?_ (fun _ => ?_))
   | exact ih0 _ _ _ _ _
   | exact ih1 _ _ _ _
   | exact LeO.none _
   | refine LeO.ite ?_ ?_
   | refine LeO.bind ?_ (fun _ => ?_)
theorem ident_Compare.mono : ∀ a0 a1 k, LeO (ident_Compare.f k a0 a1) (ident_Compare.f (k + 1) a0 a1) := by
 intro a0 a1 k
 obtain ⟨ih0, ih1⟩ := ident_Compare.mono_l k
 unfold ident_Compare.f
 repeat' first
   | (with_reducible exact ih0 _ _ _ _ _)
   | (with_reducible exact ih1 _ _ _ _)
   | (with_reducible exact LeO.refl _)
   | (with_reducible exact LeO.none _)
   | (with_reducible refine LeO.ite ?_ ?_)
   | (with_reducible refine LeO.bind ?_ (fun _ => ?_))
   | exact ih0 _ _ _ _ _
   | exact ih1 _ _ _ _
   | exact LeO.none _
   | refine LeO.ite ?_ ?_
   | refine LeO.bind ?_ (fun _ => ?_)
set_option maxHeartbeats 8000000 in
set_option maxRecDepth 100000 in
theorem ident_Compare.calls (k : Nat) (a0 : ByteArray) (a1 : ByteArray) (r : Int) (w : World) (h : ident_Compare.f k a0 a1 = some r) :
  Calls Tryd.prog 18 #[.string a0, .string a1] w fun e w' => e = .returned (.int .i64 r) ∧ Below w.heap.size w w' := by
 have HB := Aside0.mk (Below.refl w.heap.size w)
 have H : ((ident_numeric.f a0).bind fun t101 => ((ident_numeric.f a1).bind fun t102 => (if t101 = true then (ident_Compare.j0 k a0 a1 t101 t102 (!t102)) else (ident_Compare.j0 k a0 a1 t101 t102 false)))) = some r := h
 clear h
 replace H := Option.bind_eq_some_iff.mp H
 obtain ⟨t101, A30, H⟩ := H
 replace H : ((ident_numeric.f a1).bind fun t102 => (if t101 = true then (ident_Compare.j0 k a0 a1 t101 t102 (!t102)) else (ident_Compare.j0 k a0 a1 t101 t102 false))) = some r := H
 have A3 := Aside0.mk A30
 clear A30
 replace H := Option.bind_eq_some_iff.mp H
 obtain ⟨t102, A40, H⟩ := H
 replace H : (if t101 = true then (ident_Compare.j0 k a0 a1 t101 t102 (!t102)) else (ident_Compare.j0 k a0 a1 t101 t102 false)) = some r := H
 have A4 := Aside0.mk A40
 clear A40
 have HC5 := Aside0.mk H
 clear H
 go_enter Tryd.func18, Tryd.ntmps18
 go_upto_region 2 with (first | ((with_reducible refine gate_callee (f := 51) rfl ?_); refine goesL_ (some 12) rfl rfl Tryd.func51 (by kernel_rfl) rfl #[.string a0] rfl bM ?_; (with_reducible refine (ident_numeric.calls a0 t101 _ A3.out).mono ?_); rintro e w6 ⟨rfl, hb⟩; refine ⟨_, rfl, ?_⟩; replace HB := aB HB hb; (try clear hb); (try clear hb2); (try clear hk); (try clear hi)) | ((with_reducible refine gate_callee (f := 51) rfl ?_); refine goesL_ (some 14) rfl rfl Tryd.func51 (by kernel_rfl) rfl #[.string a1] rfl bM ?_; (with_reducible refine (ident_numeric.calls a1 t102 _ A4.out).mono ?_); rintro e w7 ⟨rfl, hb⟩; refine ⟨_, rfl, ?_⟩; replace HB := aB HB hb; (try clear hb); (try clear hb2); (try clear hk); (try clear hi)))
 (try simp only [Act.put, List.setIfInBounds_toArray, List.set_cons_zero, List.set_cons_succ])
 go_cut [15] (fun v15 wc => ∃ (kq : Nat) (x15_4 : Bool), v15 = .bool x15_4 ∧ Aside0 (ident_Compare.j0 kq a0 a1 t101 t102 x15_4 = some r) ∧ Aside0 (kq ≤ k) ∧ Aside0 (Below w.heap.size w wc))
 case first =>
  have H := HC5.out
  clear HC5
  by_cases c8 : t101 = true
  ·subst c8
   have H1 : (ident_Compare.j0 k a0 a1 true t102 (!t102)) = some r := by rw [if_pos rfl] at H; exact H
   clear H
   have H := H1
   clear H1
   have H' := Aside0.mk H
   clear H
   go_wp2
   go_meet
   case rel => exact ⟨_, (!t102), bS, H', ⟨by first | omega | exact Nat.le_refl _⟩, ⟨bB⟩⟩
  ·replace c8 := Bool.eq_false_iff.mpr c8
   subst c8
   have H1 : (ident_Compare.j0 k a0 a1 false t102 false) = some r := by rw [if_neg (show ¬ (false = true) by decide)] at H; exact H
   clear H
   have H := H1
   clear H1
   have H' := Aside0.mk H
   clear H
   go_wp2
   go_meet
   case rel => exact ⟨_, (false), bS, H', ⟨by first | omega | exact Nat.le_refl _⟩, ⟨bB⟩⟩
 case rest =>
  clear HC5
  try clear c1
  try clear p2
  try clear c5
  try clear p6
  try clear c8
  obtain ⟨kq, x15_4, rfl, HA, HJ4, HB⟩ := hcut
  cases kq with
  | zero => exact absurd HA.out (by simp [ident_Compare.j0])
  | succ kj4 =>
   have H := HA.out
   clear HA
   simp only [ident_Compare.j0] at H
   by_cases c9 : x15_4 = true
   ·subst c9
    have H1 : (some (-1)) = some r := by rw [if_pos rfl] at H; exact H
    clear H
    have H := H1
    clear H1
    obtain rfl := Option.some.inj H
    go_wp2
    go_ret
    exact ⟨by first | rfl | (simp [errW_none, errW_some] <;> rfl) | (simp [*, errW_none, errW_some] <;> rfl), bB⟩
   ·replace c9 := Bool.eq_false_iff.mpr c9
    subst c9
    have H1 : (if t102 = true then (ident_Compare.j1 kj4 a0 a1 t101 (!t101)) else (ident_Compare.j1 kj4 a0 a1 t101 false)) = some r := by rw [if_neg (show ¬ (false = true) by decide)] at H; exact H
    clear H
    have H := H1
    clear H1
    have HC10 := Aside0.mk H
    clear H
    go_upto_region 4 with (fail)
    go_cut [21] (fun v21 wc => ∃ (kq : Nat) (x21_9 : Bool), v21 = .bool x21_9 ∧ Aside0 (ident_Compare.j1 kq a0 a1 t101 x21_9 = some r) ∧ Aside0 (kq ≤ kj4) ∧ Aside0 (Below w.heap.size w wc))
    case first =>
     have H := HC10.out
     clear HC10
     by_cases c11 : t102 = true
     ·subst c11
      have H1 : (ident_Compare.j1 kj4 a0 a1 t101 (!t101)) = some r := by rw [if_pos rfl] at H; exact H
      clear H
      have H := H1
      clear H1
      have H' := Aside0.mk H
      clear H
      go_wp2
      go_meet
      case rel => exact ⟨_, (!t101), bS, H', ⟨by have := HJ4.out; first | omega | exact Nat.le_refl _⟩, ⟨bB⟩⟩
     ·replace c11 := Bool.eq_false_iff.mpr c11
      subst c11
      have H1 : (ident_Compare.j1 kj4 a0 a1 t101 false) = some r := by rw [if_neg (show ¬ (false = true) by decide)] at H; exact H
      clear H
      have H := H1
      clear H1
      have H' := Aside0.mk H
      clear H
      go_wp2
      go_meet
      case rel => exact ⟨_, (false), bS, H', ⟨by have := HJ4.out; first | omega | exact Nat.le_refl _⟩, ⟨bB⟩⟩
    case rest =>
     clear HC10
     try clear c1
     try clear p2
     try clear c5
     try clear p6
     try clear c8
     try clear c9
     try clear c11
     try clear p2
     try clear p6
     obtain ⟨kq, x21_9, rfl, HA, HJ9, HB⟩ := hcut
     cases kq with
     | zero => exact absurd HA.out (by simp [ident_Compare.j1])
     | succ kj9 =>
      have H := HA.out
      clear HA
      simp only [ident_Compare.j1] at H
      by_cases c12 : x21_9 = true
      ·subst c12
       have H1 : (some 1) = some r := by rw [if_pos rfl] at H; exact H
       clear H
       have H := H1
       clear H1
       obtain rfl := Option.some.inj H
       go_wp2
       go_ret
       exact ⟨by first | rfl | (simp [errW_none, errW_some] <;> rfl) | (simp [*, errW_none, errW_some] <;> rfl), bB⟩
      ·replace c12 := Bool.eq_false_iff.mpr c12
       subst c12
       have H1 : (if t101 = true then ((strings_TrimLeft.f a0 (⟨#[48]⟩ : ByteArray)).bind fun t104 => ((strings_TrimLeft.f a1 (⟨#[48]⟩ : ByteArray)).bind fun t105 => ((ident_sign.f (wrap64 ((t104.size : Int) - (t105.size : Int)))).bind fun t106 => (if t106 = 0 then ((strings_Compare.f t104 t105).bind fun t107 => (if t107 = 0 then ((ident_sign.f (wrap64 ((a0.size : Int) - (a1.size : Int)))).bind fun t108 => (some t108)) else (some t107))) else (some t106))))) else ((strings_Compare.f a0 a1).bind fun t103 => (some t103))) = some r := by rw [if_neg (show ¬ (false = true) by decide)] at H; exact H
       clear H
       have H := H1
       clear H1
       by_cases c13 : t101 = true
       ·subst c13
        have H1 : ((strings_TrimLeft.f a0 (⟨#[48]⟩ : ByteArray)).bind fun t104 => ((strings_TrimLeft.f a1 (⟨#[48]⟩ : ByteArray)).bind fun t105 => ((ident_sign.f (wrap64 ((t104.size : Int) - (t105.size : Int)))).bind fun t106 => (if t106 = 0 then ((strings_Compare.f t104 t105).bind fun t107 => (if t107 = 0 then ((ident_sign.f (wrap64 ((a0.size : Int) - (a1.size : Int)))).bind fun t108 => (some t108)) else (some t107))) else (some t106))))) = some r := by rw [if_pos rfl] at H; exact H
        clear H
        have H := H1
        clear H1
        replace H := Option.bind_eq_some_iff.mp H
        obtain ⟨t104, A140, H⟩ := H
        replace H : ((strings_TrimLeft.f a1 (⟨#[48]⟩ : ByteArray)).bind fun t105 => ((ident_sign.f (wrap64 ((t104.size : Int) - (t105.size : Int)))).bind fun t106 => (if t106 = 0 then ((strings_Compare.f t104 t105).bind fun t107 => (if t107 = 0 then ((ident_sign.f (wrap64 ((a0.size : Int) - (a1.size : Int)))).bind fun t108 => (some t108)) else (some t107))) else (some t106)))) = some r := H
        have A14 := Aside0.mk A140
        clear A140
        replace H := Option.bind_eq_some_iff.mp H
        obtain ⟨t105, A150, H⟩ := H
        replace H : ((ident_sign.f (wrap64 ((t104.size : Int) - (t105.size : Int)))).bind fun t106 => (if t106 = 0 then ((strings_Compare.f t104 t105).bind fun t107 => (if t107 = 0 then ((ident_sign.f (wrap64 ((a0.size : Int) - (a1.size : Int)))).bind fun t108 => (some t108)) else (some t107))) else (some t106))) = some r := H
        have A15 := Aside0.mk A150
        clear A150
        replace H := Option.bind_eq_some_iff.mp H
        obtain ⟨t106, A160, H⟩ := H
        replace H : (if t106 = 0 then ((strings_Compare.f t104 t105).bind fun t107 => (if t107 = 0 then ((ident_sign.f (wrap64 ((a0.size : Int) - (a1.size : Int)))).bind fun t108 => (some t108)) else (some t107))) else (some t106)) = some r := H
        have A16 := Aside0.mk A160
        clear A160
        by_cases c17 : t106 = 0
        ·rw [if_pos c17] at H
         have c17b0 : (t106 == 0) = true := beq_iff_eq.mpr c17
         have c17b1 : (t106 != 0) = false := bne_eq_false_iff_eq.mpr c17
         clear c17
         replace H := Option.bind_eq_some_iff.mp H
         obtain ⟨t107, A180, H⟩ := H
         replace H : (if t107 = 0 then ((ident_sign.f (wrap64 ((a0.size : Int) - (a1.size : Int)))).bind fun t108 => (some t108)) else (some t107)) = some r := H
         have A18 := Aside0.mk A180
         clear A180
         by_cases c19 : t107 = 0
         ·rw [if_pos c19] at H
          have c19b0 : (t107 == 0) = true := beq_iff_eq.mpr c19
          have c19b1 : (t107 != 0) = false := bne_eq_false_iff_eq.mpr c19
          clear c19
          replace H := Option.bind_eq_some_iff.mp H
          obtain ⟨t108, A200, H⟩ := H
          replace H : (some t108) = some r := H
          have A20 := Aside0.mk A200
          clear A200
          obtain rfl := Option.some.inj H
          go_wp2_with (first | ((with_reducible refine gate_callee (f := 53) rfl ?_); refine goesL_ (some 34) rfl rfl Tryd.func53 (by kernel_rfl) rfl #[.string a0, .string (⟨#[48]⟩ : ByteArray)] rfl bM ?_; (with_reducible refine (strings_TrimLeft.calls a0 (⟨#[48]⟩ : ByteArray) t104 _ A14.out).mono ?_); rintro e w21 ⟨rfl, hb⟩; refine ⟨_, rfl, ?_⟩; replace HB := aB HB hb; (try clear hb); (try clear hb2); (try clear hk); (try clear hi)) | ((with_reducible refine gate_callee (f := 53) rfl ?_); refine goesL_ (some 36) rfl rfl Tryd.func53 (by kernel_rfl) rfl #[.string a1, .string (⟨#[48]⟩ : ByteArray)] rfl bM ?_; (with_reducible refine (strings_TrimLeft.calls a1 (⟨#[48]⟩ : ByteArray) t105 _ A15.out).mono ?_); rintro e w22 ⟨rfl, hb⟩; refine ⟨_, rfl, ?_⟩; replace HB := aB HB hb; (try clear hb); (try clear hb2); (try clear hk); (try clear hi)) | ((with_reducible refine gate_callee (f := 54) rfl ?_); refine goesL_ (some 42) rfl rfl Tryd.func54 (by kernel_rfl) rfl #[.int .i64 (wrap64 ((t104.size : Int) - (t105.size : Int)))] rfl bM ?_; (with_reducible refine (ident_sign.calls (wrap64 ((t104.size : Int) - (t105.size : Int))) t106 _ A16.out).mono ?_); rintro e w23 ⟨rfl, hb⟩; refine ⟨_, rfl, ?_⟩; replace HB := aB HB hb; (try clear hb); (try clear hb2); (try clear hk); (try clear hi)) | ((with_reducible refine gate_callee (f := 52) rfl ?_); refine goesL_ (some 48) rfl rfl Tryd.func52 (by kernel_rfl) rfl #[.string t104, .string t105] rfl bM ?_; (with_reducible refine (strings_Compare.calls t104 t105 t107 _ A18.out).mono ?_); rintro e w' ⟨rfl, ⟨nd, rfl⟩⟩; refine ⟨_, rfl, ?_⟩) | ((with_reducible refine gate_callee (f := 54) rfl ?_); refine goesL_ (some 57) rfl rfl Tryd.func54 (by kernel_rfl) rfl #[.int .i64 (wrap64 ((a0.size : Int) - (a1.size : Int)))] rfl bM ?_; (with_reducible refine (ident_sign.calls (wrap64 ((a0.size : Int) - (a1.size : Int))) t108 _ A20.out).mono ?_); rintro e w24 ⟨rfl, hb⟩; refine ⟨_, rfl, ?_⟩; replace HB := aB HB hb; (try clear hb); (try clear hb2); (try clear hk); (try clear hi)))
          go_ret
          exact ⟨by first | rfl | (simp [errW_none, errW_some] <;> rfl) | (simp [*, errW_none, errW_some] <;> rfl), bB⟩
         ·rw [if_neg c19] at H
          have c19b0 : (t107 == 0) = false := beq_eq_false_iff_ne.mpr c19
          have c19b1 : (t107 != 0) = true := bne_iff_ne.mpr c19
          obtain rfl := Option.some.inj H
          go_wp2_with (first | ((with_reducible refine gate_callee (f := 53) rfl ?_); refine goesL_ (some 34) rfl rfl Tryd.func53 (by kernel_rfl) rfl #[.string a0, .string (⟨#[48]⟩ : ByteArray)] rfl bM ?_; (with_reducible refine (strings_TrimLeft.calls a0 (⟨#[48]⟩ : ByteArray) t104 _ A14.out).mono ?_); rintro e w25 ⟨rfl, hb⟩; refine ⟨_, rfl, ?_⟩; replace HB := aB HB hb; (try clear hb); (try clear hb2); (try clear hk); (try clear hi)) | ((with_reducible refine gate_callee (f := 53) rfl ?_); refine goesL_ (some 36) rfl rfl Tryd.func53 (by kernel_rfl) rfl #[.string a1, .string (⟨#[48]⟩ : ByteArray)] rfl bM ?_; (with_reducible refine (strings_TrimLeft.calls a1 (⟨#[48]⟩ : ByteArray) t105 _ A15.out).mono ?_); rintro e w26 ⟨rfl, hb⟩; refine ⟨_, rfl, ?_⟩; replace HB := aB HB hb; (try clear hb); (try clear hb2); (try clear hk); (try clear hi)) | ((with_reducible refine gate_callee (f := 54) rfl ?_); refine goesL_ (some 42) rfl rfl Tryd.func54 (by kernel_rfl) rfl #[.int .i64 (wrap64 ((t104.size : Int) - (t105.size : Int)))] rfl bM ?_; (with_reducible refine (ident_sign.calls (wrap64 ((t104.size : Int) - (t105.size : Int))) t106 _ A16.out).mono ?_); rintro e w27 ⟨rfl, hb⟩; refine ⟨_, rfl, ?_⟩; replace HB := aB HB hb; (try clear hb); (try clear hb2); (try clear hk); (try clear hi)) | ((with_reducible refine gate_callee (f := 52) rfl ?_); refine goesL_ (some 48) rfl rfl Tryd.func52 (by kernel_rfl) rfl #[.string t104, .string t105] rfl bM ?_; (with_reducible refine (strings_Compare.calls t104 t105 t107 _ A18.out).mono ?_); rintro e w' ⟨rfl, ⟨nd, rfl⟩⟩; refine ⟨_, rfl, ?_⟩))
          go_ret
          exact ⟨by first | rfl | (simp [errW_none, errW_some] <;> rfl) | (simp [*, errW_none, errW_some] <;> rfl), bB⟩
        ·rw [if_neg c17] at H
         have c17b0 : (t106 == 0) = false := beq_eq_false_iff_ne.mpr c17
         have c17b1 : (t106 != 0) = true := bne_iff_ne.mpr c17
         obtain rfl := Option.some.inj H
         go_wp2_with (first | ((with_reducible refine gate_callee (f := 53) rfl ?_); refine goesL_ (some 34) rfl rfl Tryd.func53 (by kernel_rfl) rfl #[.string a0, .string (⟨#[48]⟩ : ByteArray)] rfl bM ?_; (with_reducible refine (strings_TrimLeft.calls a0 (⟨#[48]⟩ : ByteArray) t104 _ A14.out).mono ?_); rintro e w28 ⟨rfl, hb⟩; refine ⟨_, rfl, ?_⟩; replace HB := aB HB hb; (try clear hb); (try clear hb2); (try clear hk); (try clear hi)) | ((with_reducible refine gate_callee (f := 53) rfl ?_); refine goesL_ (some 36) rfl rfl Tryd.func53 (by kernel_rfl) rfl #[.string a1, .string (⟨#[48]⟩ : ByteArray)] rfl bM ?_; (with_reducible refine (strings_TrimLeft.calls a1 (⟨#[48]⟩ : ByteArray) t105 _ A15.out).mono ?_); rintro e w29 ⟨rfl, hb⟩; refine ⟨_, rfl, ?_⟩; replace HB := aB HB hb; (try clear hb); (try clear hb2); (try clear hk); (try clear hi)) | ((with_reducible refine gate_callee (f := 54) rfl ?_); refine goesL_ (some 42) rfl rfl Tryd.func54 (by kernel_rfl) rfl #[.int .i64 (wrap64 ((t104.size : Int) - (t105.size : Int)))] rfl bM ?_; (with_reducible refine (ident_sign.calls (wrap64 ((t104.size : Int) - (t105.size : Int))) t106 _ A16.out).mono ?_); rintro e w30 ⟨rfl, hb⟩; refine ⟨_, rfl, ?_⟩; replace HB := aB HB hb; (try clear hb); (try clear hb2); (try clear hk); (try clear hi)))
         go_ret
         exact ⟨by first | rfl | (simp [errW_none, errW_some] <;> rfl) | (simp [*, errW_none, errW_some] <;> rfl), bB⟩
       ·replace c13 := Bool.eq_false_iff.mpr c13
        subst c13
        have H1 : ((strings_Compare.f a0 a1).bind fun t103 => (some t103)) = some r := by rw [if_neg (show ¬ (false = true) by decide)] at H; exact H
        clear H
        have H := H1
        clear H1
        replace H := Option.bind_eq_some_iff.mp H
        obtain ⟨t103, A310, H⟩ := H
        replace H : (some t103) = some r := H
        have A31 := Aside0.mk A310
        clear A310
        obtain rfl := Option.some.inj H
        go_wp2_with (first | ((with_reducible refine gate_callee (f := 52) rfl ?_); refine goesL_ (some 32) rfl rfl Tryd.func52 (by kernel_rfl) rfl #[.string a0, .string a1] rfl bM ?_; (with_reducible refine (strings_Compare.calls a0 a1 t103 _ A31.out).mono ?_); rintro e w' ⟨rfl, ⟨nd, rfl⟩⟩; refine ⟨_, rfl, ?_⟩))
        go_ret
        exact ⟨by first | rfl | (simp [errW_none, errW_some] <;> rfl) | (simp [*, errW_none, errW_some] <;> rfl), bB⟩

end Go.Proofs.YtildmfegfkiknaaDoor.X
