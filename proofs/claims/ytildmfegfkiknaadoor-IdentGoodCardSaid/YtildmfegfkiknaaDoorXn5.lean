-- Written by a program of this session (wip/xp), out of the translation. Not trusted: Lean checks it.
import Derived.Test.YtildmfegfkiknaaDoorX0
import Derived.Test.YtildmfegfkiknaaDoorXn18
import Derived.Test.YtildmfegfkiknaaDoorXn14
import Derived.Test.YtildmfegfkiknaaDoorXn19
import Derived.Test.YtildmfegfkiknaaDoorXn20
-- shrunk
namespace Go.Proofs.YtildmfegfkiknaaDoor.X
open Go.RowKit Go.Proofs.YtildmfegfkiknaaDoorW.PrintWords Go.Proofs.YtildmfegfkiknaaDoorW.PrintLast Go.Proofs.YtildmfegfkiknaaDoorW.PrintMore
attribute [local go_sem] Lab.str_gtr Lab.str_leq Lab.str_geq max2_int min2_int max_two min_two max_three min_three max_four min_four   -- for this text's walks alone
set_option linter.unusedVariables false
set_option linter.unusedSimpArgs false

/-! ### ferrulelaw02_IdentLonger: function 5 -/
def ferrulelaw02_IdentLonger.j0 : Nat → List ByteArray → ByteArray → ByteArray → Bool → Option (Bool)
 | 0, _, _, _, _ => none
 | k + 1, x0, x1, x2, x28 => if x28 = true then (some true) else ((some (([] : List ByteArray) : List ByteArray)).bind fun y103 => (if y103.length + x0.length < 8796093022208 then ((some (y103 ++ x0 : List ByteArray)).bind fun y106 => (if y106.length < 8796093022208 then ((some (y106 ++ [x1] : List ByteArray)).bind fun y109 => ((some (([] : List ByteArray) : List ByteArray)).bind fun y112 => (if y112.length + x0.length < 8796093022208 then ((some (y112 ++ x0 : List ByteArray)).bind fun y115 => (if y115.length < 8796093022208 then ((ident_Rows.f k x0 y109).bind fun t121 => (if t121 = (-1) then ((ident_Rows.f k y109 x0).bind fun t122 => (if t122 = 1 then ((ident_Rows.f k y109 (y115 ++ [x2])).bind fun t123 => ((ident_Compare.f k x1 x2).bind fun t124 => (some (t123 == t124)))) else (some false))) else (some false))) else (none))) else (none)))) else (none))) else (none)))
def ferrulelaw02_IdentLonger.f (k : Nat) (l0 : List ByteArray) (a1 : ByteArray) (a2 : ByteArray) : Option (Bool) := (ferrulelaw02_awake.f k).bind fun t101 => (if t101 = true then (if (l0.length : Int) > 20 then (ferrulelaw02_IdentLonger.j0 k l0 a1 a2 true) else ((ferrulelaw02_short.f k l0).bind fun t102 => (if t102 = true then (if (a1.size : Int) > 300 then (ferrulelaw02_IdentLonger.j0 k l0 a1 a2 true) else (ferrulelaw02_IdentLonger.j0 k l0 a1 a2 (decide ((a2.size : Int) > 300)))) else (ferrulelaw02_IdentLonger.j0 k l0 a1 a2 true)))) else (some false))
theorem ferrulelaw02_IdentLonger.mono_l : ∀ k, (∀ y0 y1 y2 y3, LeO (ferrulelaw02_IdentLonger.j0 k y0 y1 y2 y3) (ferrulelaw02_IdentLonger.j0 (k + 1) y0 y1 y2 y3))
 | 0 => fun _ _ _ _ r h => by simp [ferrulelaw02_IdentLonger.j0] at h
 | k + 1 => by
  have ih0 := ferrulelaw02_IdentLonger.mono_l k
  ·intro y0 y1 y2 y3
   unfold ferrulelaw02_IdentLonger.j0
   repeat' first
   | (with_reducible exact ih0 _ _ _ _)
   | (with_reducible exact ferrulelaw02_awake.mono _)
   | (with_reducible exact ferrulelaw02_short.mono _ _)
   | (with_reducible exact ident_Compare.mono _ _ _)
   | (with_reducible exact ident_Rows.mono _ _ _)
   | (with_reducible exact LeO.refl _)
   | (with_reducible exact LeO.none _)
   | (with_reducible refine LeO.ite ?_ ?_)
   | (with_reducible refine LeO.bind ?_ (fun _ => ?_))
   | exact ih0 _ _ _ _
   | exact ferrulelaw02_awake.mono _
   | exact ferrulelaw02_short.mono _ _
   | exact ident_Compare.mono _ _ _
   | exact ident_Rows.mono _ _ _
   | exact LeO.none _
   | refine LeO.ite ?_ ?_
   | refine LeO.bind ?_ (fun _ => ?_)
theorem ferrulelaw02_IdentLonger.mono : ∀ a0 a1 a2 k, LeO (ferrulelaw02_IdentLonger.f k a0 a1 a2) (ferrulelaw02_IdentLonger.f (k + 1) a0 a1 a2) := by
 intro a0 a1 a2 k
 have ih0 := ferrulelaw02_IdentLonger.mono_l k
 unfold ferrulelaw02_IdentLonger.f
 repeat' first
   | (with_reducible exact ih0 _ _ _ _)
   | (with_reducible exact ferrulelaw02_awake.mono _)
   | (with_reducible exact ferrulelaw02_short.mono _ _)
   | (with_reducible exact ident_Compare.mono _ _ _)
   | (with_reducible exact ident_Rows.mono _ _ _)
   | (with_reducible exact LeO.refl _)
   | (with_reducible exact LeO.none _)
   | (with_reducible refine LeO.ite ?_ ?_)
   | (with_reducible refine LeO.bind ?_ (fun _ => ?_))
   | exact ih0 _ _ _ _
   | exact ferrulelaw02_awake.mono _
   | exact ferrulelaw02_short.mono _ _
   | exact ident_Compare.mono _ _ _
   | exact ident_Rows.mono _ _ _
   | exact LeO.none _
   | refine LeO.ite ?_ ?_
   | refine LeO.bind ?_ (fun _ => ?_)
set_option maxHeartbeats 8000000 in
set_option maxRecDepth 100000 in
theorem ferrulelaw02_IdentLonger.calls (k : Nat) (A0 : Option Addr) (c0 : Nat) (l0 : List ByteArray) (a1 : ByteArray) (a2 : ByteArray) (r : Bool) (w : World) (hr0 : Kd.C Kd.string w A0 l0.length l0) (hc0 : l0.length ≤ c0) (h : ferrulelaw02_IdentLonger.f k l0 a1 a2 = some r) :
  Calls Tryd.prog 5 #[.slice A0 l0.length c0, .string a1, .string a2] w fun e w' => e = .returned (.bool r) ∧ Below w.heap.size w w' := by
 have HR0 := Aside0.mk hr0
 have HC0 := Aside0.mk hc0
 clear hr0 hc0
 have HB := Aside0.mk (Below.refl w.heap.size w)
 have H : ((ferrulelaw02_awake.f k).bind fun t101 => (if t101 = true then (if (l0.length : Int) > 20 then (ferrulelaw02_IdentLonger.j0 k l0 a1 a2 true) else ((ferrulelaw02_short.f k l0).bind fun t102 => (if t102 = true then (if (a1.size : Int) > 300 then (ferrulelaw02_IdentLonger.j0 k l0 a1 a2 true) else (ferrulelaw02_IdentLonger.j0 k l0 a1 a2 (decide ((a2.size : Int) > 300)))) else (ferrulelaw02_IdentLonger.j0 k l0 a1 a2 true)))) else (some false))) = some r := h
 clear h
 replace H := Option.bind_eq_some_iff.mp H
 obtain ⟨t101, A40, H⟩ := H
 replace H : (if t101 = true then (if (l0.length : Int) > 20 then (ferrulelaw02_IdentLonger.j0 k l0 a1 a2 true) else ((ferrulelaw02_short.f k l0).bind fun t102 => (if t102 = true then (if (a1.size : Int) > 300 then (ferrulelaw02_IdentLonger.j0 k l0 a1 a2 true) else (ferrulelaw02_IdentLonger.j0 k l0 a1 a2 (decide ((a2.size : Int) > 300)))) else (ferrulelaw02_IdentLonger.j0 k l0 a1 a2 true)))) else (some false)) = some r := H
 have A4 := Aside0.mk A40
 clear A40
 by_cases c5 : t101 = true
 ·subst c5
  have H1 : (if (l0.length : Int) > 20 then (ferrulelaw02_IdentLonger.j0 k l0 a1 a2 true) else ((ferrulelaw02_short.f k l0).bind fun t102 => (if t102 = true then (if (a1.size : Int) > 300 then (ferrulelaw02_IdentLonger.j0 k l0 a1 a2 true) else (ferrulelaw02_IdentLonger.j0 k l0 a1 a2 (decide ((a2.size : Int) > 300)))) else (ferrulelaw02_IdentLonger.j0 k l0 a1 a2 true)))) = some r := by rw [if_pos rfl] at H; exact H
  clear H
  have H := H1
  clear H1
  have HC6 := Aside0.mk H
  clear H
  go_enter Tryd.func5, Tryd.ntmps5
  go_upto_region 3 with (first | ((with_reducible refine gate_callee (f := 14) rfl ?_); refine goesL_ (some 9) rfl rfl Tryd.func14 (by kernel_rfl) rfl #[] rfl bM ?_; (with_reducible refine (ferrulelaw02_awake.calls k  true _ A4.out).mono ?_); rintro e w7 ⟨rfl, hb⟩; refine ⟨_, rfl, ?_⟩; replace HB := aB HB hb; (try clear hb); (try clear hb2); (try clear hk); (try clear hi)))
  (try simp only [Act.put, List.setIfInBounds_toArray, List.set_cons_zero, List.set_cons_succ])
  go_cut [28] (fun v28 wc => ∃ (kq : Nat) (x28_5 : Bool), v28 = .bool x28_5 ∧ Aside0 (ferrulelaw02_IdentLonger.j0 kq l0 a1 a2 x28_5 = some r) ∧ Aside0 (kq ≤ k) ∧ Aside0 (Below w.heap.size w wc))
  case first =>
   have H := HC6.out
   clear HC6
   by_cases c8 : (l0.length : Int) > 20
   ·rw [if_pos c8] at H
    have c8b0 : decide (20 < (l0.length : Int)) = true := decide_eq_true c8
    have c8b1 : decide (20 < l0.length) = true := decide_eq_true (by omega)
    clear c8
    (first | rw [c8b0] | (simp only [i64_w, i32_w]; rw [c8b0]) | skip)
    have H' := Aside0.mk H
    clear H
    go_wp2
    go_meet
    case rel => exact ⟨_, (true), bS, H', ⟨by first | omega | exact Nat.le_refl _⟩, ⟨bB⟩⟩
   ·rw [if_neg c8] at H
    have c8b0 : decide (20 < (l0.length : Int)) = false := decide_eq_false c8
    have c8b1 : decide (20 < l0.length) = false := decide_eq_false (by omega)
    clear c8
    (first | rw [c8b0] | (simp only [i64_w, i32_w]; rw [c8b0]) | skip)
    replace H := Option.bind_eq_some_iff.mp H
    obtain ⟨t102, A90, H⟩ := H
    replace H : (if t102 = true then (if (a1.size : Int) > 300 then (ferrulelaw02_IdentLonger.j0 k l0 a1 a2 true) else (ferrulelaw02_IdentLonger.j0 k l0 a1 a2 (decide ((a2.size : Int) > 300)))) else (ferrulelaw02_IdentLonger.j0 k l0 a1 a2 true)) = some r := H
    have A9 := Aside0.mk A90
    clear A90
    by_cases c10 : t102 = true
    ·subst c10
     have H1 : (if (a1.size : Int) > 300 then (ferrulelaw02_IdentLonger.j0 k l0 a1 a2 true) else (ferrulelaw02_IdentLonger.j0 k l0 a1 a2 (decide ((a2.size : Int) > 300)))) = some r := by rw [if_pos rfl] at H; exact H
     clear H
     have H := H1
     clear H1
     by_cases c11 : (a1.size : Int) > 300
     ·rw [if_pos c11] at H
      have c11b0 : decide (300 < (a1.size : Int)) = true := decide_eq_true c11
      have c11b1 : decide (300 < a1.size) = true := decide_eq_true (by omega)
      clear c11
      have H' := Aside0.mk H
      clear H
      go_wp2_with (first | (go_at_call 19; (with_reducible refine (ferrulelaw02_short.calls k _ _ l0 true _ ?side1 ?side2 A9.out).mono ?_); (case side1 => exact sW (Kd.C_below HR0.out HB.out)); (case side2 => exact HC0.out); rintro e w' ⟨rfl, ⟨nd, rfl⟩⟩))
      go_meet
      case rel => exact ⟨_, (true), bS, H', ⟨by first | omega | exact Nat.le_refl _⟩, ⟨bB⟩⟩
     ·rw [if_neg c11] at H
      have c11b0 : decide (300 < (a1.size : Int)) = false := decide_eq_false c11
      have c11b1 : decide (300 < a1.size) = false := decide_eq_false (by omega)
      clear c11
      have H' := Aside0.mk H
      clear H
      go_wp2_with (first | (go_at_call 19; (with_reducible refine (ferrulelaw02_short.calls k _ _ l0 true _ ?side1 ?side2 A9.out).mono ?_); (case side1 => exact sW (Kd.C_below HR0.out HB.out)); (case side2 => exact HC0.out); rintro e w' ⟨rfl, ⟨nd, rfl⟩⟩))
      go_meet
      case rel => exact ⟨_, (decide ((a2.size : Int) > 300)), bS, H', ⟨by first | omega | exact Nat.le_refl _⟩, ⟨bB⟩⟩
    ·replace c10 := Bool.eq_false_iff.mpr c10
     subst c10
     have H1 : (ferrulelaw02_IdentLonger.j0 k l0 a1 a2 true) = some r := by rw [if_neg (show ¬ (false = true) by decide)] at H; exact H
     clear H
     have H := H1
     clear H1
     have H' := Aside0.mk H
     clear H
     go_wp2_with (first | (go_at_call 19; (with_reducible refine (ferrulelaw02_short.calls k _ _ l0 false _ ?side1 ?side2 A9.out).mono ?_); (case side1 => exact sW (Kd.C_below HR0.out HB.out)); (case side2 => exact HC0.out); rintro e w' ⟨rfl, ⟨nd, rfl⟩⟩))
     go_meet
     case rel => exact ⟨_, (true), bS, H', ⟨by first | omega | exact Nat.le_refl _⟩, ⟨bB⟩⟩
  case rest =>
   clear HC6
   try clear c1
   try clear p2
   try clear c5
   try clear p6
   try clear c8
   try clear c8b0
   try clear c8b1
   try clear c10
   try clear c11
   try clear c11b0
   try clear c11b1
   obtain ⟨kq, x28_5, rfl, HA, HJ5, HB⟩ := hcut
   cases kq with
   | zero => exact absurd HA.out (by simp [ferrulelaw02_IdentLonger.j0])
   | succ kj5 =>
    have H := HA.out
    clear HA
    simp only [ferrulelaw02_IdentLonger.j0] at H
    by_cases c12 : x28_5 = true
    ·subst c12
     have H1 : (some true) = some r := by rw [if_pos rfl] at H; exact H
     clear H
     have H := H1
     clear H1
     obtain rfl := Option.some.inj H
     go_wp2
     go_ret
     exact ⟨by first | rfl | (simp [errW_none, errW_some] <;> rfl) | (simp [*, errW_none, errW_some] <;> rfl), bB⟩
    ·replace c12 := Bool.eq_false_iff.mpr c12
     subst c12
     have H1 : ((some (([] : List ByteArray) : List ByteArray)).bind fun y103 => (if y103.length + l0.length < 8796093022208 then ((some (y103 ++ l0 : List ByteArray)).bind fun y106 => (if y106.length < 8796093022208 then ((some (y106 ++ [a1] : List ByteArray)).bind fun y109 => ((some (([] : List ByteArray) : List ByteArray)).bind fun y112 => (if y112.length + l0.length < 8796093022208 then ((some (y112 ++ l0 : List ByteArray)).bind fun y115 => (if y115.length < 8796093022208 then ((ident_Rows.f kj5 l0 y109).bind fun t121 => (if t121 = (-1) then ((ident_Rows.f kj5 y109 l0).bind fun t122 => (if t122 = 1 then ((ident_Rows.f kj5 y109 (y115 ++ [a2])).bind fun t123 => ((ident_Compare.f kj5 a1 a2).bind fun t124 => (some (t123 == t124)))) else (some false))) else (some false))) else (none))) else (none)))) else (none))) else (none))) = some r := by rw [if_neg (show ¬ (false = true) by decide)] at H; exact H
     clear H
     have H := H1
     clear H1
     obtain ⟨y103, hy103⟩ : ∃ y_ : List ByteArray, y_ = (([] : List ByteArray)) := ⟨_, rfl⟩
     replace H : (if y103.length + l0.length < 8796093022208 then ((some (y103 ++ l0 : List ByteArray)).bind fun y106 => (if y106.length < 8796093022208 then ((some (y106 ++ [a1] : List ByteArray)).bind fun y109 => ((some (([] : List ByteArray) : List ByteArray)).bind fun y112 => (if y112.length + l0.length < 8796093022208 then ((some (y112 ++ l0 : List ByteArray)).bind fun y115 => (if y115.length < 8796093022208 then ((ident_Rows.f kj5 l0 y109).bind fun t121 => (if t121 = (-1) then ((ident_Rows.f kj5 y109 l0).bind fun t122 => (if t122 = 1 then ((ident_Rows.f kj5 y109 (y115 ++ [a2])).bind fun t123 => ((ident_Compare.f kj5 a1 a2).bind fun t124 => (some (t123 == t124)))) else (some false))) else (some false))) else (none))) else (none)))) else (none))) else (none)) = some r := by first | (rw [hy103]; with_reducible exact H) | (have H2_ := (Option.bind_some _ _).symm.trans H; rw [hy103]; with_reducible exact H2_) | (have H2_ := (Option.bind_some _ _).symm.trans H; with_reducible exact H2_) | with_reducible exact H | (rw [hy103]; exact H) | exact H
     have Ny103 := Aside0.mk hy103
     clear hy103
     by_cases c13 : y103.length + l0.length < 8796093022208
     ·rw [if_pos c13] at H
      have LMc13 := Aside0.mk c13
      clear c13
      obtain ⟨y106, hy106⟩ : ∃ y_ : List ByteArray, y_ = (y103 ++ l0) := ⟨_, rfl⟩
      replace H : (if y106.length < 8796093022208 then ((some (y106 ++ [a1] : List ByteArray)).bind fun y109 => ((some (([] : List ByteArray) : List ByteArray)).bind fun y112 => (if y112.length + l0.length < 8796093022208 then ((some (y112 ++ l0 : List ByteArray)).bind fun y115 => (if y115.length < 8796093022208 then ((ident_Rows.f kj5 l0 y109).bind fun t121 => (if t121 = (-1) then ((ident_Rows.f kj5 y109 l0).bind fun t122 => (if t122 = 1 then ((ident_Rows.f kj5 y109 (y115 ++ [a2])).bind fun t123 => ((ident_Compare.f kj5 a1 a2).bind fun t124 => (some (t123 == t124)))) else (some false))) else (some false))) else (none))) else (none)))) else (none)) = some r := by first | (rw [hy106]; with_reducible exact H) | (have H2_ := (Option.bind_some _ _).symm.trans H; rw [hy106]; with_reducible exact H2_) | (have H2_ := (Option.bind_some _ _).symm.trans H; with_reducible exact H2_) | with_reducible exact H | (rw [hy106]; exact H) | exact H
      have Ny106 := Aside0.mk hy106
      clear hy106
      by_cases c14 : y106.length < 8796093022208
      ·rw [if_pos c14] at H
       have LMc14 := Aside0.mk c14
       clear c14
       obtain ⟨y109, hy109⟩ : ∃ y_ : List ByteArray, y_ = (y106 ++ [a1]) := ⟨_, rfl⟩
       replace H : ((some (([] : List ByteArray) : List ByteArray)).bind fun y112 => (if y112.length + l0.length < 8796093022208 then ((some (y112 ++ l0 : List ByteArray)).bind fun y115 => (if y115.length < 8796093022208 then ((ident_Rows.f kj5 l0 y109).bind fun t121 => (if t121 = (-1) then ((ident_Rows.f kj5 y109 l0).bind fun t122 => (if t122 = 1 then ((ident_Rows.f kj5 y109 (y115 ++ [a2])).bind fun t123 => ((ident_Compare.f kj5 a1 a2).bind fun t124 => (some (t123 == t124)))) else (some false))) else (some false))) else (none))) else (none))) = some r := by first | (rw [hy109]; with_reducible exact H) | (have H2_ := (Option.bind_some _ _).symm.trans H; rw [hy109]; with_reducible exact H2_) | (have H2_ := (Option.bind_some _ _).symm.trans H; with_reducible exact H2_) | with_reducible exact H | (rw [hy109]; exact H) | exact H
       have Ny109 := Aside0.mk hy109
       clear hy109
       obtain ⟨y112, hy112⟩ : ∃ y_ : List ByteArray, y_ = (([] : List ByteArray)) := ⟨_, rfl⟩
       replace H : (if y112.length + l0.length < 8796093022208 then ((some (y112 ++ l0 : List ByteArray)).bind fun y115 => (if y115.length < 8796093022208 then ((ident_Rows.f kj5 l0 y109).bind fun t121 => (if t121 = (-1) then ((ident_Rows.f kj5 y109 l0).bind fun t122 => (if t122 = 1 then ((ident_Rows.f kj5 y109 (y115 ++ [a2])).bind fun t123 => ((ident_Compare.f kj5 a1 a2).bind fun t124 => (some (t123 == t124)))) else (some false))) else (some false))) else (none))) else (none)) = some r := by first | (rw [hy112]; with_reducible exact H) | (have H2_ := (Option.bind_some _ _).symm.trans H; rw [hy112]; with_reducible exact H2_) | (have H2_ := (Option.bind_some _ _).symm.trans H; with_reducible exact H2_) | with_reducible exact H | (rw [hy112]; exact H) | exact H
       have Ny112 := Aside0.mk hy112
       clear hy112
       by_cases c15 : y112.length + l0.length < 8796093022208
       ·rw [if_pos c15] at H
        have LMc15 := Aside0.mk c15
        clear c15
        obtain ⟨y115, hy115⟩ : ∃ y_ : List ByteArray, y_ = (y112 ++ l0) := ⟨_, rfl⟩
        replace H : (if y115.length < 8796093022208 then ((ident_Rows.f kj5 l0 y109).bind fun t121 => (if t121 = (-1) then ((ident_Rows.f kj5 y109 l0).bind fun t122 => (if t122 = 1 then ((ident_Rows.f kj5 y109 (y115 ++ [a2])).bind fun t123 => ((ident_Compare.f kj5 a1 a2).bind fun t124 => (some (t123 == t124)))) else (some false))) else (some false))) else (none)) = some r := by first | (rw [hy115]; with_reducible exact H) | (have H2_ := (Option.bind_some _ _).symm.trans H; rw [hy115]; with_reducible exact H2_) | (have H2_ := (Option.bind_some _ _).symm.trans H; with_reducible exact H2_) | with_reducible exact H | (rw [hy115]; exact H) | exact H
        have Ny115 := Aside0.mk hy115
        clear hy115
        by_cases c16 : y115.length < 8796093022208
        ·rw [if_pos c16] at H
         have LMc16 := Aside0.mk c16
         clear c16
         obtain ⟨y118, hy118⟩ : ∃ y_ : List ByteArray, y_ = (y115 ++ [a2]) := ⟨_, rfl⟩
         replace H : ((ident_Rows.f kj5 l0 y109).bind fun t121 => (if t121 = (-1) then ((ident_Rows.f kj5 y109 l0).bind fun t122 => (if t122 = 1 then ((ident_Rows.f kj5 y109 y118).bind fun t123 => ((ident_Compare.f kj5 a1 a2).bind fun t124 => (some (t123 == t124)))) else (some false))) else (some false))) = some r := by first | (rw [hy118]; with_reducible exact H) | (have H2_ := (Option.bind_some _ _).symm.trans H; rw [hy118]; with_reducible exact H2_) | (have H2_ := (Option.bind_some _ _).symm.trans H; with_reducible exact H2_) | with_reducible exact H | (rw [hy118]; exact H) | exact H
         have Ny118 := Aside0.mk hy118
         clear hy118
         replace H := Option.bind_eq_some_iff.mp H
         obtain ⟨t121, A170, H⟩ := H
         replace H : (if t121 = (-1) then ((ident_Rows.f kj5 y109 l0).bind fun t122 => (if t122 = 1 then ((ident_Rows.f kj5 y109 y118).bind fun t123 => ((ident_Compare.f kj5 a1 a2).bind fun t124 => (some (t123 == t124)))) else (some false))) else (some false)) = some r := H
         have A17 := Aside0.mk A170
         clear A170
         by_cases c18 : t121 = (-1)
         ·rw [if_pos c18] at H
          have c18b0 : (t121 == (-1)) = true := beq_iff_eq.mpr c18
          have c18b1 : (t121 != (-1)) = false := bne_eq_false_iff_eq.mpr c18
          clear c18
          replace H := Option.bind_eq_some_iff.mp H
          obtain ⟨t122, A190, H⟩ := H
          replace H : (if t122 = 1 then ((ident_Rows.f kj5 y109 y118).bind fun t123 => ((ident_Compare.f kj5 a1 a2).bind fun t124 => (some (t123 == t124)))) else (some false)) = some r := H
          have A19 := Aside0.mk A190
          clear A190
          by_cases c20 : t122 = 1
          ·rw [if_pos c20] at H
           have c20b0 : (t122 == 1) = true := beq_iff_eq.mpr c20
           have c20b1 : (t122 != 1) = false := bne_eq_false_iff_eq.mpr c20
           clear c20
           replace H := Option.bind_eq_some_iff.mp H
           obtain ⟨t123, A210, H⟩ := H
           replace H : ((ident_Compare.f kj5 a1 a2).bind fun t124 => (some (t123 == t124))) = some r := H
           have A21 := Aside0.mk A210
           clear A210
           replace H := Option.bind_eq_some_iff.mp H
           obtain ⟨t124, A220, H⟩ := H
           replace H : (some (t123 == t124)) = some r := H
           have A22 := Aside0.mk A220
           clear A220
           obtain rfl := Option.some.inj H
           go_wp2_with (first | ((with_reducible refine gate_dst (N := 29) rfl ?_); (try (refine gate_guard (by rfl) ?_; dsimp only)); refine Kd.R_lit Kd.string _ 9 ?hg (N := 29) ?hd (xs := ([] : List ByteArray)) (inner := []) (ok := fun _ => True) (okp := fun _ => True) ?hr ?hp (fun _ hk => hk) trivial (Below.refl _ _) (Nat.le_refl _) (by simp) ?_; (case hd => rfl); (case hg => rfl); (case hr => first | (go_simp; done) | (go_simp; rfl)); (case hp => exact (Reps.none _ _)); intro v104 w23 ho24 hb hg_ hnew_; clear hg_ hnew_; (first | rw [← Ny103.out] at ho24 | (simp only [Int.reduceToNat] at ho24; rw [← Ny103.out] at ho24)); have HO105 := aL ho24 HB; replace HB := aB HB hb; clear hb ho24) | ((with_reducible refine gate_builtin (b := .append) (xs := #[.tmp 29, .tmp 30]) rfl ?_); (try (refine gate_guard (by rfl) ?_; dsimp only)); at_builtin; refine Kd.R_append_rows Kd.string (w0 := w) w.heap.size rfl (.tmp 29) (.tmp 30) 24 9 (.string ⟨#[]⟩) 16 rfl Tryd.underlying24 info9 rfl (by decide) (by omega) v104 y103 l0 _ _ _ (fun _ => True) (fun _ => False) rfl rfl ?aO ?aR (fun _ _ h => h) (fun _ h => h.elim) ?aF ?aB ?aS ?aL ?_; (case aR => exact sW (Kd.C_below HR0.out HB.out)); (case aB => exact bB); (case aF => exact (fun _ _ => trivial)); (case aO => exact (aRw HO105)); (case aS => exact (below_size bB)); (case aL => have := LMc13.out; omega); intro v107 w25 ho hb hg hat; rw [← Ny106.out] at ho; replace HB := Aside0.mk hb; have HO108 := Aside0.mk ho; clear HO105; clear ho hb hg hat) | ((with_reducible refine gate_builtin (b := .append) (xs := #[.tmp 31, .tmp 33]) rfl ?_); (try (refine gate_guard (by rfl) ?_; dsimp only)); at_builtin; refine Kd.R_append Kd.string (w0 := w) w.heap.size rfl (.tmp 31) (.tmp 33) 24 9 (.string ⟨#[]⟩) 16 rfl Tryd.underlying24 info9 rfl (by decide) (by omega) v107 y106 a1 [.string a1] (fun _ => True) (fun _ => False) rfl rfl ?aP (fun _ hk => hk.elim) ?aF ?aO ?aB ?aS ?aL ?_; (case aP => exact rfl); (case aB => exact bB); (case aF => exact (fun _ _ => trivial)); (case aO => exact (aRw HO108)); (case aS => exact (below_size bB)); (case aL => have := LMc14.out; omega); intro v110 w26 ho hb hg hat; rw [← Ny109.out] at ho; replace HB := Aside0.mk hb; have HO111 := Aside0.mk ho; clear HO108; clear ho hb hg hat) | ((with_reducible refine gate_dst (N := 35) rfl ?_); (try (refine gate_guard (by rfl) ?_; dsimp only)); refine Kd.R_lit Kd.string _ 9 ?hg (N := 35) ?hd (xs := ([] : List ByteArray)) (inner := []) (ok := fun _ => True) (okp := fun _ => True) ?hr ?hp (fun _ hk => hk) trivial (Below.refl _ _) (Nat.le_refl _) (by simp) ?_; (case hd => rfl); (case hg => rfl); (case hr => first | (go_simp; done) | (go_simp; rfl)); (case hp => exact (Reps.none _ _)); intro v113 w27 ho28 hb hg_ hnew_; clear hg_ hnew_; (first | rw [← Ny112.out] at ho28 | (simp only [Int.reduceToNat] at ho28; rw [← Ny112.out] at ho28)); have HO114 := aN ho28 HO111 HB; replace HO111 := aE HO111 ho28 hb; replace HB := aB HB hb; clear hb ho28) | ((with_reducible refine gate_builtin (b := .append) (xs := #[.tmp 35, .tmp 36]) rfl ?_); (try (refine gate_guard (by rfl) ?_; dsimp only)); at_builtin; refine Kd.R_append_rows Kd.string (w0 := w) w.heap.size rfl (.tmp 35) (.tmp 36) 24 9 (.string ⟨#[]⟩) 16 rfl Tryd.underlying24 info9 rfl (by decide) (by omega) v113 y112 l0 _ _ _ (fun k_ => some k_ ≠ (v110 : Value).ownBlock) (fun _ => False) rfl rfl ?aO ?aR (fun _ _ h => h) (fun _ h => h.elim) ?aF ?aB ?aS ?aL ?_; (case aR => exact sW (Kd.C_below HR0.out HB.out)); (case aB => exact bB); (case aF => exact (fun k_ hk => Kd.fresh' (Kd.R_lt (aRw HO111)) k_ hk)); (case aO => exact (by (with_reducible repeat (first | apply Kd.R_alloc | apply Kd.R_drewN | apply Kd.R_drew)); exact Kd.R_mono HO114.out (fun _ hk => hk.2))); (case aS => exact (below_size bB)); (case aL => have := LMc15.out; omega); intro v116 w29 ho hb hg hat; rw [← Ny115.out] at ho; replace HO111 := Aside0.mk (Kd.R_after (ok := (fun _ => True)) (aRw HO111) hg hat); replace HB := Aside0.mk hb; have HO117 := Aside0.mk ho; clear HO114; clear ho hb hg hat) | ((with_reducible refine gate_builtin (b := .append) (xs := #[.tmp 37, .tmp 39]) rfl ?_); (try (refine gate_guard (by rfl) ?_; dsimp only)); at_builtin; refine Kd.R_append Kd.string (w0 := w) w.heap.size rfl (.tmp 37) (.tmp 39) 24 9 (.string ⟨#[]⟩) 16 rfl Tryd.underlying24 info9 rfl (by decide) (by omega) v116 y115 a2 [.string a2] (fun k_ => some k_ ≠ (v110 : Value).ownBlock) (fun _ => False) rfl rfl ?aP (fun _ hk => hk.elim) ?aF ?aO ?aB ?aS ?aL ?_; (case aP => exact rfl); (case aB => exact bB); (case aF => exact (fun k_ hk => Kd.fresh' (Kd.R_lt (aRw HO111)) k_ hk)); (case aO => exact (aRw HO117)); (case aS => exact (below_size bB)); (case aL => have := LMc16.out; omega); intro v119 w30 ho hb hg hat; rw [← Ny118.out] at ho; replace HO111 := Aside0.mk (Kd.R_after (ok := (fun _ => True)) (aRw HO111) hg hat); replace HB := Aside0.mk hb; have HO120 := Aside0.mk ho; clear HO117; clear ho hb hg hat; obtain ⟨Ao31, co31, eo31⟩ := Kd.R_slice HO111.out; subst eo31) | ((with_reducible refine gate_callee (f := 20) rfl ?_); refine goesL_ (some 43) rfl rfl Tryd.func20 (by kernel_rfl) rfl #[.slice A0 l0.length c0, .slice Ao31 y109.length co31] rfl bM ?_; (with_reducible refine (ident_Rows.calls kj5 _ _ l0 _ _ y109 t121 _ ?side1 ?side2 ?side3 ?side4 A17.out).mono ?_); (case side1 => exact sW (Kd.C_below HR0.out HB.out)); (case side2 => exact HC0.out); (case side3 => exact sW (Kd.R_reads' HO111.out).2.2); (case side4 => exact (Kd.R_reads' HO111.out).2.1); rintro e w32 ⟨rfl, hb⟩; refine ⟨_, rfl, ?_⟩; replace HO111 := aR HO111 hb; replace HO120 := aR HO120 hb; replace HB := aB HB hb; (try clear hb); (try clear hb2); (try clear hk); (try clear hi)) | (go_at_call 20; (with_reducible refine (ident_Rows.calls kj5 _ _ y109 _ _ l0 t122 _ ?side1 ?side2 ?side3 ?side4 A19.out).mono ?_); (case side1 => exact sW (Kd.R_reads' HO111.out).2.2); (case side2 => exact (Kd.R_reads' HO111.out).2.1); (case side3 => exact sW (Kd.C_below HR0.out HB.out)); (case side4 => exact HC0.out); rintro e w33 ⟨rfl, hb⟩; replace HO111 := aR HO111 hb; replace HO120 := aR HO120 hb; replace HB := aB HB hb; (try clear hb); (try clear hb2); (try clear hk); (try clear hi); obtain ⟨Ao34, co34, eo34⟩ := Kd.R_slice HO120.out; subst eo34) | (go_at_call 20; (with_reducible refine (ident_Rows.calls kj5 _ _ y109 _ _ y118 t123 _ ?side1 ?side2 ?side3 ?side4 A21.out).mono ?_); (case side1 => exact sW (Kd.R_reads' HO111.out).2.2); (case side2 => exact (Kd.R_reads' HO111.out).2.1); (case side3 => exact sW (Kd.R_reads' HO120.out).2.2); (case side4 => exact (Kd.R_reads' HO120.out).2.1); rintro e w35 ⟨rfl, hb⟩; replace HO111 := aR HO111 hb; replace HO120 := aR HO120 hb; replace HB := aB HB hb; (try clear hb); (try clear hb2); (try clear hk); (try clear hi)) | (go_at_call 18; (with_reducible refine (ident_Compare.calls kj5 a1 a2 t124 _ A22.out).mono ?_); rintro e w36 ⟨rfl, hb⟩; replace HO111 := aR HO111 hb; replace HO120 := aR HO120 hb; replace HB := aB HB hb; (try clear hb); (try clear hb2); (try clear hk); (try clear hi)))
           go_ret
           exact ⟨by first | rfl | (simp [errW_none, errW_some] <;> rfl) | (simp [*, errW_none, errW_some] <;> rfl), bB⟩
          ·rw [if_neg c20] at H
           have c20b0 : (t122 == 1) = false := beq_eq_false_iff_ne.mpr c20
           have c20b1 : (t122 != 1) = true := bne_iff_ne.mpr c20
           obtain rfl := Option.some.inj H
           go_wp2_with (first | ((with_reducible refine gate_dst (N := 29) rfl ?_); (try (refine gate_guard (by rfl) ?_; dsimp only)); refine Kd.R_lit Kd.string _ 9 ?hg (N := 29) ?hd (xs := ([] : List ByteArray)) (inner := []) (ok := fun _ => True) (okp := fun _ => True) ?hr ?hp (fun _ hk => hk) trivial (Below.refl _ _) (Nat.le_refl _) (by simp) ?_; (case hd => rfl); (case hg => rfl); (case hr => first | (go_simp; done) | (go_simp; rfl)); (case hp => exact (Reps.none _ _)); intro v104 w37 ho38 hb hg_ hnew_; clear hg_ hnew_; (first | rw [← Ny103.out] at ho38 | (simp only [Int.reduceToNat] at ho38; rw [← Ny103.out] at ho38)); have HO105 := aL ho38 HB; replace HB := aB HB hb; clear hb ho38) | ((with_reducible refine gate_builtin (b := .append) (xs := #[.tmp 29, .tmp 30]) rfl ?_); (try (refine gate_guard (by rfl) ?_; dsimp only)); at_builtin; refine Kd.R_append_rows Kd.string (w0 := w) w.heap.size rfl (.tmp 29) (.tmp 30) 24 9 (.string ⟨#[]⟩) 16 rfl Tryd.underlying24 info9 rfl (by decide) (by omega) v104 y103 l0 _ _ _ (fun _ => True) (fun _ => False) rfl rfl ?aO ?aR (fun _ _ h => h) (fun _ h => h.elim) ?aF ?aB ?aS ?aL ?_; (case aR => exact sW (Kd.C_below HR0.out HB.out)); (case aB => exact bB); (case aF => exact (fun _ _ => trivial)); (case aO => exact (aRw HO105)); (case aS => exact (below_size bB)); (case aL => have := LMc13.out; omega); intro v107 w39 ho hb hg hat; rw [← Ny106.out] at ho; replace HB := Aside0.mk hb; have HO108 := Aside0.mk ho; clear HO105; clear ho hb hg hat) | ((with_reducible refine gate_builtin (b := .append) (xs := #[.tmp 31, .tmp 33]) rfl ?_); (try (refine gate_guard (by rfl) ?_; dsimp only)); at_builtin; refine Kd.R_append Kd.string (w0 := w) w.heap.size rfl (.tmp 31) (.tmp 33) 24 9 (.string ⟨#[]⟩) 16 rfl Tryd.underlying24 info9 rfl (by decide) (by omega) v107 y106 a1 [.string a1] (fun _ => True) (fun _ => False) rfl rfl ?aP (fun _ hk => hk.elim) ?aF ?aO ?aB ?aS ?aL ?_; (case aP => exact rfl); (case aB => exact bB); (case aF => exact (fun _ _ => trivial)); (case aO => exact (aRw HO108)); (case aS => exact (below_size bB)); (case aL => have := LMc14.out; omega); intro v110 w40 ho hb hg hat; rw [← Ny109.out] at ho; replace HB := Aside0.mk hb; have HO111 := Aside0.mk ho; clear HO108; clear ho hb hg hat) | ((with_reducible refine gate_dst (N := 35) rfl ?_); (try (refine gate_guard (by rfl) ?_; dsimp only)); refine Kd.R_lit Kd.string _ 9 ?hg (N := 35) ?hd (xs := ([] : List ByteArray)) (inner := []) (ok := fun _ => True) (okp := fun _ => True) ?hr ?hp (fun _ hk => hk) trivial (Below.refl _ _) (Nat.le_refl _) (by simp) ?_; (case hd => rfl); (case hg => rfl); (case hr => first | (go_simp; done) | (go_simp; rfl)); (case hp => exact (Reps.none _ _)); intro v113 w41 ho42 hb hg_ hnew_; clear hg_ hnew_; (first | rw [← Ny112.out] at ho42 | (simp only [Int.reduceToNat] at ho42; rw [← Ny112.out] at ho42)); have HO114 := aN ho42 HO111 HB; replace HO111 := aE HO111 ho42 hb; replace HB := aB HB hb; clear hb ho42) | ((with_reducible refine gate_builtin (b := .append) (xs := #[.tmp 35, .tmp 36]) rfl ?_); (try (refine gate_guard (by rfl) ?_; dsimp only)); at_builtin; refine Kd.R_append_rows Kd.string (w0 := w) w.heap.size rfl (.tmp 35) (.tmp 36) 24 9 (.string ⟨#[]⟩) 16 rfl Tryd.underlying24 info9 rfl (by decide) (by omega) v113 y112 l0 _ _ _ (fun k_ => some k_ ≠ (v110 : Value).ownBlock) (fun _ => False) rfl rfl ?aO ?aR (fun _ _ h => h) (fun _ h => h.elim) ?aF ?aB ?aS ?aL ?_; (case aR => exact sW (Kd.C_below HR0.out HB.out)); (case aB => exact bB); (case aF => exact (fun k_ hk => Kd.fresh' (Kd.R_lt (aRw HO111)) k_ hk)); (case aO => exact (by (with_reducible repeat (first | apply Kd.R_alloc | apply Kd.R_drewN | apply Kd.R_drew)); exact Kd.R_mono HO114.out (fun _ hk => hk.2))); (case aS => exact (below_size bB)); (case aL => have := LMc15.out; omega); intro v116 w43 ho hb hg hat; rw [← Ny115.out] at ho; replace HO111 := Aside0.mk (Kd.R_after (ok := (fun _ => True)) (aRw HO111) hg hat); replace HB := Aside0.mk hb; have HO117 := Aside0.mk ho; clear HO114; clear ho hb hg hat) | ((with_reducible refine gate_builtin (b := .append) (xs := #[.tmp 37, .tmp 39]) rfl ?_); (try (refine gate_guard (by rfl) ?_; dsimp only)); at_builtin; refine Kd.R_append Kd.string (w0 := w) w.heap.size rfl (.tmp 37) (.tmp 39) 24 9 (.string ⟨#[]⟩) 16 rfl Tryd.underlying24 info9 rfl (by decide) (by omega) v116 y115 a2 [.string a2] (fun k_ => some k_ ≠ (v110 : Value).ownBlock) (fun _ => False) rfl rfl ?aP (fun _ hk => hk.elim) ?aF ?aO ?aB ?aS ?aL ?_; (case aP => exact rfl); (case aB => exact bB); (case aF => exact (fun k_ hk => Kd.fresh' (Kd.R_lt (aRw HO111)) k_ hk)); (case aO => exact (aRw HO117)); (case aS => exact (below_size bB)); (case aL => have := LMc16.out; omega); intro v119 w44 ho hb hg hat; rw [← Ny118.out] at ho; replace HO111 := Aside0.mk (Kd.R_after (ok := (fun _ => True)) (aRw HO111) hg hat); replace HB := Aside0.mk hb; have HO120 := Aside0.mk ho; clear HO117; clear ho hb hg hat; obtain ⟨Ao45, co45, eo45⟩ := Kd.R_slice HO111.out; subst eo45) | ((with_reducible refine gate_callee (f := 20) rfl ?_); refine goesL_ (some 43) rfl rfl Tryd.func20 (by kernel_rfl) rfl #[.slice A0 l0.length c0, .slice Ao45 y109.length co45] rfl bM ?_; (with_reducible refine (ident_Rows.calls kj5 _ _ l0 _ _ y109 t121 _ ?side1 ?side2 ?side3 ?side4 A17.out).mono ?_); (case side1 => exact sW (Kd.C_below HR0.out HB.out)); (case side2 => exact HC0.out); (case side3 => exact sW (Kd.R_reads' HO111.out).2.2); (case side4 => exact (Kd.R_reads' HO111.out).2.1); rintro e w46 ⟨rfl, hb⟩; refine ⟨_, rfl, ?_⟩; replace HO111 := aR HO111 hb; replace HO120 := aR HO120 hb; replace HB := aB HB hb; (try clear hb); (try clear hb2); (try clear hk); (try clear hi)) | (go_at_call 20; (with_reducible refine (ident_Rows.calls kj5 _ _ y109 _ _ l0 t122 _ ?side1 ?side2 ?side3 ?side4 A19.out).mono ?_); (case side1 => exact sW (Kd.R_reads' HO111.out).2.2); (case side2 => exact (Kd.R_reads' HO111.out).2.1); (case side3 => exact sW (Kd.C_below HR0.out HB.out)); (case side4 => exact HC0.out); rintro e w47 ⟨rfl, hb⟩; replace HO111 := aR HO111 hb; replace HO120 := aR HO120 hb; replace HB := aB HB hb; (try clear hb); (try clear hb2); (try clear hk); (try clear hi)))
           go_ret
           exact ⟨by first | rfl | (simp [errW_none, errW_some] <;> rfl) | (simp [*, errW_none, errW_some] <;> rfl), bB⟩
         ·rw [if_neg c18] at H
          have c18b0 : (t121 == (-1)) = false := beq_eq_false_iff_ne.mpr c18
          have c18b1 : (t121 != (-1)) = true := bne_iff_ne.mpr c18
          obtain rfl := Option.some.inj H
          go_wp2_with (first | ((with_reducible refine gate_dst (N := 29) rfl ?_); (try (refine gate_guard (by rfl) ?_; dsimp only)); refine Kd.R_lit Kd.string _ 9 ?hg (N := 29) ?hd (xs := ([] : List ByteArray)) (inner := []) (ok := fun _ => True) (okp := fun _ => True) ?hr ?hp (fun _ hk => hk) trivial (Below.refl _ _) (Nat.le_refl _) (by simp) ?_; (case hd => rfl); (case hg => rfl); (case hr => first | (go_simp; done) | (go_simp; rfl)); (case hp => exact (Reps.none _ _)); intro v104 w48 ho49 hb hg_ hnew_; clear hg_ hnew_; (first | rw [← Ny103.out] at ho49 | (simp only [Int.reduceToNat] at ho49; rw [← Ny103.out] at ho49)); have HO105 := aL ho49 HB; replace HB := aB HB hb; clear hb ho49) | ((with_reducible refine gate_builtin (b := .append) (xs := #[.tmp 29, .tmp 30]) rfl ?_); (try (refine gate_guard (by rfl) ?_; dsimp only)); at_builtin; refine Kd.R_append_rows Kd.string (w0 := w) w.heap.size rfl (.tmp 29) (.tmp 30) 24 9 (.string ⟨#[]⟩) 16 rfl Tryd.underlying24 info9 rfl (by decide) (by omega) v104 y103 l0 _ _ _ (fun _ => True) (fun _ => False) rfl rfl ?aO ?aR (fun _ _ h => h) (fun _ h => h.elim) ?aF ?aB ?aS ?aL ?_; (case aR => exact sW (Kd.C_below HR0.out HB.out)); (case aB => exact bB); (case aF => exact (fun _ _ => trivial)); (case aO => exact (aRw HO105)); (case aS => exact (below_size bB)); (case aL => have := LMc13.out; omega); intro v107 w50 ho hb hg hat; rw [← Ny106.out] at ho; replace HB := Aside0.mk hb; have HO108 := Aside0.mk ho; clear HO105; clear ho hb hg hat) | ((with_reducible refine gate_builtin (b := .append) (xs := #[.tmp 31, .tmp 33]) rfl ?_); (try (refine gate_guard (by rfl) ?_; dsimp only)); at_builtin; refine Kd.R_append Kd.string (w0 := w) w.heap.size rfl (.tmp 31) (.tmp 33) 24 9 (.string ⟨#[]⟩) 16 rfl Tryd.underlying24 info9 rfl (by decide) (by omega) v107 y106 a1 [.string a1] (fun _ => True) (fun _ => False) rfl rfl ?aP (fun _ hk => hk.elim) ?aF ?aO ?aB ?aS ?aL ?_; (case aP => exact rfl); (case aB => exact bB); (case aF => exact (fun _ _ => trivial)); (case aO => exact (aRw HO108)); (case aS => exact (below_size bB)); (case aL => have := LMc14.out; omega); intro v110 w51 ho hb hg hat; rw [← Ny109.out] at ho; replace HB := Aside0.mk hb; have HO111 := Aside0.mk ho; clear HO108; clear ho hb hg hat) | ((with_reducible refine gate_dst (N := 35) rfl ?_); (try (refine gate_guard (by rfl) ?_; dsimp only)); refine Kd.R_lit Kd.string _ 9 ?hg (N := 35) ?hd (xs := ([] : List ByteArray)) (inner := []) (ok := fun _ => True) (okp := fun _ => True) ?hr ?hp (fun _ hk => hk) trivial (Below.refl _ _) (Nat.le_refl _) (by simp) ?_; (case hd => rfl); (case hg => rfl); (case hr => first | (go_simp; done) | (go_simp; rfl)); (case hp => exact (Reps.none _ _)); intro v113 w52 ho53 hb hg_ hnew_; clear hg_ hnew_; (first | rw [← Ny112.out] at ho53 | (simp only [Int.reduceToNat] at ho53; rw [← Ny112.out] at ho53)); have HO114 := aN ho53 HO111 HB; replace HO111 := aE HO111 ho53 hb; replace HB := aB HB hb; clear hb ho53) | ((with_reducible refine gate_builtin (b := .append) (xs := #[.tmp 35, .tmp 36]) rfl ?_); (try (refine gate_guard (by rfl) ?_; dsimp only)); at_builtin; refine Kd.R_append_rows Kd.string (w0 := w) w.heap.size rfl (.tmp 35) (.tmp 36) 24 9 (.string ⟨#[]⟩) 16 rfl Tryd.underlying24 info9 rfl (by decide) (by omega) v113 y112 l0 _ _ _ (fun k_ => some k_ ≠ (v110 : Value).ownBlock) (fun _ => False) rfl rfl ?aO ?aR (fun _ _ h => h) (fun _ h => h.elim) ?aF ?aB ?aS ?aL ?_; (case aR => exact sW (Kd.C_below HR0.out HB.out)); (case aB => exact bB); (case aF => exact (fun k_ hk => Kd.fresh' (Kd.R_lt (aRw HO111)) k_ hk)); (case aO => exact (by (with_reducible repeat (first | apply Kd.R_alloc | apply Kd.R_drewN | apply Kd.R_drew)); exact Kd.R_mono HO114.out (fun _ hk => hk.2))); (case aS => exact (below_size bB)); (case aL => have := LMc15.out; omega); intro v116 w54 ho hb hg hat; rw [← Ny115.out] at ho; replace HO111 := Aside0.mk (Kd.R_after (ok := (fun _ => True)) (aRw HO111) hg hat); replace HB := Aside0.mk hb; have HO117 := Aside0.mk ho; clear HO114; clear ho hb hg hat) | ((with_reducible refine gate_builtin (b := .append) (xs := #[.tmp 37, .tmp 39]) rfl ?_); (try (refine gate_guard (by rfl) ?_; dsimp only)); at_builtin; refine Kd.R_append Kd.string (w0 := w) w.heap.size rfl (.tmp 37) (.tmp 39) 24 9 (.string ⟨#[]⟩) 16 rfl Tryd.underlying24 info9 rfl (by decide) (by omega) v116 y115 a2 [.string a2] (fun k_ => some k_ ≠ (v110 : Value).ownBlock) (fun _ => False) rfl rfl ?aP (fun _ hk => hk.elim) ?aF ?aO ?aB ?aS ?aL ?_; (case aP => exact rfl); (case aB => exact bB); (case aF => exact (fun k_ hk => Kd.fresh' (Kd.R_lt (aRw HO111)) k_ hk)); (case aO => exact (aRw HO117)); (case aS => exact (below_size bB)); (case aL => have := LMc16.out; omega); intro v119 w55 ho hb hg hat; rw [← Ny118.out] at ho; replace HO111 := Aside0.mk (Kd.R_after (ok := (fun _ => True)) (aRw HO111) hg hat); replace HB := Aside0.mk hb; have HO120 := Aside0.mk ho; clear HO117; clear ho hb hg hat; obtain ⟨Ao56, co56, eo56⟩ := Kd.R_slice HO111.out; subst eo56) | ((with_reducible refine gate_callee (f := 20) rfl ?_); refine goesL_ (some 43) rfl rfl Tryd.func20 (by kernel_rfl) rfl #[.slice A0 l0.length c0, .slice Ao56 y109.length co56] rfl bM ?_; (with_reducible refine (ident_Rows.calls kj5 _ _ l0 _ _ y109 t121 _ ?side1 ?side2 ?side3 ?side4 A17.out).mono ?_); (case side1 => exact sW (Kd.C_below HR0.out HB.out)); (case side2 => exact HC0.out); (case side3 => exact sW (Kd.R_reads' HO111.out).2.2); (case side4 => exact (Kd.R_reads' HO111.out).2.1); rintro e w57 ⟨rfl, hb⟩; refine ⟨_, rfl, ?_⟩; replace HO111 := aR HO111 hb; replace HO120 := aR HO120 hb; replace HB := aB HB hb; (try clear hb); (try clear hb2); (try clear hk); (try clear hi)))
          go_ret
          exact ⟨by first | rfl | (simp [errW_none, errW_some] <;> rfl) | (simp [*, errW_none, errW_some] <;> rfl), bB⟩
        ·rw [if_neg c16] at H
         exact absurd H (by simp)
       ·rw [if_neg c15] at H
        exact absurd H (by simp)
      ·rw [if_neg c14] at H
       exact absurd H (by simp)
     ·rw [if_neg c13] at H
      exact absurd H (by simp)
 ·replace c5 := Bool.eq_false_iff.mpr c5
  subst c5
  have H1 : (some false) = some r := by rw [if_neg (show ¬ (false = true) by decide)] at H; exact H
  clear H
  have H := H1
  clear H1
  obtain rfl := Option.some.inj H
  go_enter Tryd.func5, Tryd.ntmps5
  go_wp2_with (first | ((with_reducible refine gate_callee (f := 14) rfl ?_); refine goesL_ (some 9) rfl rfl Tryd.func14 (by kernel_rfl) rfl #[] rfl bM ?_; (with_reducible refine (ferrulelaw02_awake.calls k  false _ A4.out).mono ?_); rintro e w58 ⟨rfl, hb⟩; refine ⟨_, rfl, ?_⟩; replace HB := aB HB hb; (try clear hb); (try clear hb2); (try clear hk); (try clear hi)))
  go_ret
  exact ⟨by first | rfl | (simp [errW_none, errW_some] <;> rfl) | (simp [*, errW_none, errW_some] <;> rfl), bB⟩

def ferrulelaw02_IdentLonger.Pure : Prop := ∀ (l0 : List ByteArray) (a1 : ByteArray) (a2 : ByteArray), (fun l : (List ByteArray) => l.length ≤ maxLen ∧ ∀ x ∈ l, (fun s : ByteArray => s.size ≤ maxLen) x) l0 → a1.size ≤ 140737488351232 → a2.size ≤ 140737488351232 → ∃ k, ferrulelaw02_IdentLonger.f k l0 a1 a2 = some true

end Go.Proofs.YtildmfegfkiknaaDoor.X
