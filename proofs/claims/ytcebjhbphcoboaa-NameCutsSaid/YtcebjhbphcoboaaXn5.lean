-- Written by a program of this session (wip/xp), out of the translation. Not trusted: Lean checks it.
import Derived.Test.YtcebjhbphcoboaaX0
import Derived.Test.YtcebjhbphcoboaaXn13
import Derived.Test.YtcebjhbphcoboaaXn15
import Derived.Test.YtcebjhbphcoboaaXn12
import Derived.Test.YtcebjhbphcoboaaXn19
-- shrunk
namespace Go.Proofs.Ytcebjhbphcoboaa.X
open Go.RowKit Go.Proofs.YtcebjhbphcoboaaW.PrintWords Go.Proofs.YtcebjhbphcoboaaW.PrintLast Go.Proofs.YtcebjhbphcoboaaW.PrintMore
attribute [local go_sem] Lab.str_gtr Lab.str_leq Lab.str_geq max2_int min2_int max_two min_two max_three min_three max_four min_four   -- for this text's walks alone
set_option linter.unusedVariables false
set_option linter.unusedSimpArgs false

/-! ### ferrulelaw08_NameCuts: function 5 -/
def ferrulelaw08_NameCuts.j0 : Nat → ByteArray → Int → Int → Bool → Option (Bool)
 | 0, _, _, _, _ => none
 | k + 1, x0, x1, x2, x24 => if x24 = true then (some true) else (if (x0.size : Int) = 0 then (none) else ((some (bytesOf x0 : List Int)).bind fun y103 => (if y103.length + 1 ≤ 140737488355328 then ((name_Scan.f k (y103 ++ [x2]) 0).bind fun bt107 => (if 0 ≤ (wrap64 (1 + (Int.tmod (wrap64 (x1)) (x0.size : Int)))) then (if (wrap64 (1 + (Int.tmod (wrap64 (x1)) (x0.size : Int)))) ≤ (x0.size : Int) then ((some (x0.extract 0 ((wrap64 (1 + (Int.tmod (wrap64 (x1)) (x0.size : Int)))) : Int).toNat : ByteArray)).bind fun sx109 => ((name_Good.f k sx109).bind fun t110 => (if t110 = true then ((ferruleref08_First.f x2).bind fun t111 => (if t111 = true then (some ((bt107.1 == (wrap64 ((x0.size : Int) + 1))) == (bt107.2 == 0))) else (if x2 = 45 then (some ((bt107.1 == (wrap64 ((x0.size : Int) + 1))) == (bt107.2 == 0))) else (if x2 = 95 then (some ((bt107.1 == (wrap64 ((x0.size : Int) + 1))) == (bt107.2 == 0))) else (if x2 = 46 then (some ((bt107.1 == (wrap64 ((x0.size : Int) + 1))) == (bt107.2 == 0))) else (if bt107.1 = (x0.size : Int) then (some (bt107.2 == 0)) else (some false))))))) else (some false)))) else (none)) else (none))) else (none))))
def ferrulelaw08_NameCuts.f (k : Nat) (a0 : ByteArray) (a1 : Int) (a2 : Int) : Option (Bool) := (ferrulelaw08_awake.f).bind fun t101 => (if t101 = true then (if (a0.size : Int) = 0 then (ferrulelaw08_NameCuts.j0 k a0 a1 a2 true) else (if (a0.size : Int) > 300 then (ferrulelaw08_NameCuts.j0 k a0 a1 a2 true) else ((name_Good.f k a0).bind fun t102 => (ferrulelaw08_NameCuts.j0 k a0 a1 a2 (!t102))))) else (some false))
theorem ferrulelaw08_NameCuts.mono_l : ∀ k, (∀ y0 y1 y2 y3, LeO (ferrulelaw08_NameCuts.j0 k y0 y1 y2 y3) (ferrulelaw08_NameCuts.j0 (k + 1) y0 y1 y2 y3))
 | 0 => fun _ _ _ _ r h => by simp [ferrulelaw08_NameCuts.j0] at h
 | k + 1 => by
  have ih0 := ferrulelaw08_NameCuts.mono_l k
  ·intro y0 y1 y2 y3
   unfold ferrulelaw08_NameCuts.j0
   repeat' first
   | (with_reducible exact ih0 _ _ _ _)
   | (with_reducible exact name_Good.mono _ _)
   | (with_reducible exact name_Scan.mono _ _ _)
   | (with_reducible exact LeO.refl _)
   | (with_reducible exact LeO.none _)
   | (with_reducible refine LeO.ite ?_ ?_)
   | (with_reducible refine LeO.bind ?_ (fun _ => ?_))
   | exact ih0 _ _ _ _
   | exact name_Good.mono _ _
   | exact name_Scan.mono _ _ _
   | exact LeO.none _
   | refine LeO.ite ?_ ?_
   | refine LeO.bind ?_ (fun _ => ?_)
theorem ferrulelaw08_NameCuts.mono : ∀ a0 a1 a2 k, LeO (ferrulelaw08_NameCuts.f k a0 a1 a2) (ferrulelaw08_NameCuts.f (k + 1) a0 a1 a2) := by
 intro a0 a1 a2 k
 have ih0 := ferrulelaw08_NameCuts.mono_l k
 unfold ferrulelaw08_NameCuts.f
 repeat' first
   | (with_reducible exact ih0 _ _ _ _)
   | (with_reducible exact name_Good.mono _ _)
   | (with_reducible exact name_Scan.mono _ _ _)
   | (with_reducible exact LeO.refl _)
   | (with_reducible exact LeO.none _)
   | (with_reducible refine LeO.ite ?_ ?_)
   | (with_reducible refine LeO.bind ?_ (fun _ => ?_))
   | exact ih0 _ _ _ _
   | exact name_Good.mono _ _
   | exact name_Scan.mono _ _ _
   | exact LeO.none _
   | refine LeO.ite ?_ ?_
   | refine LeO.bind ?_ (fun _ => ?_)
set_option maxHeartbeats 8000000 in
set_option maxRecDepth 100000 in
theorem ferrulelaw08_NameCuts.calls (k : Nat) (a0 : ByteArray) (a1 : Int) (a2 : Int) (r : Bool) (w : World) (h : ferrulelaw08_NameCuts.f k a0 a1 a2 = some r) :
  Calls Try.prog 5 #[.string a0, .int .u8 a1, .int .u8 a2] w fun e w' => e = .returned (.bool r) ∧ Below w.heap.size w w' := by
 have HB := Aside0.mk (Below.refl w.heap.size w)
 have H : ((ferrulelaw08_awake.f).bind fun t101 => (if t101 = true then (if (a0.size : Int) = 0 then (ferrulelaw08_NameCuts.j0 k a0 a1 a2 true) else (if (a0.size : Int) > 300 then (ferrulelaw08_NameCuts.j0 k a0 a1 a2 true) else ((name_Good.f k a0).bind fun t102 => (ferrulelaw08_NameCuts.j0 k a0 a1 a2 (!t102))))) else (some false))) = some r := h
 clear h
 replace H := Option.bind_eq_some_iff.mp H
 obtain ⟨t101, A40, H⟩ := H
 replace H : (if t101 = true then (if (a0.size : Int) = 0 then (ferrulelaw08_NameCuts.j0 k a0 a1 a2 true) else (if (a0.size : Int) > 300 then (ferrulelaw08_NameCuts.j0 k a0 a1 a2 true) else ((name_Good.f k a0).bind fun t102 => (ferrulelaw08_NameCuts.j0 k a0 a1 a2 (!t102))))) else (some false)) = some r := H
 have A4 := Aside0.mk A40
 clear A40
 by_cases c5 : t101 = true
 ·subst c5
  have H1 : (if (a0.size : Int) = 0 then (ferrulelaw08_NameCuts.j0 k a0 a1 a2 true) else (if (a0.size : Int) > 300 then (ferrulelaw08_NameCuts.j0 k a0 a1 a2 true) else ((name_Good.f k a0).bind fun t102 => (ferrulelaw08_NameCuts.j0 k a0 a1 a2 (!t102))))) = some r := by rw [if_pos rfl] at H; exact H
  clear H
  have H := H1
  clear H1
  have HC6 := Aside0.mk H
  clear H
  go_enter Try.func5, Try.ntmps5
  go_upto_region 3 with (first | ((with_reducible refine gate_callee (f := 12) rfl ?_); refine goesL_ (some 10) rfl rfl Try.func12 (by kernel_rfl) rfl #[] rfl bM ?_; (with_reducible refine (ferrulelaw08_awake.calls  true _ A4.out).mono ?_); rintro e w7 ⟨rfl, hb⟩; refine ⟨_, rfl, ?_⟩; replace HB := aB HB hb; (try clear hb); (try clear hb2); (try clear hk); (try clear hi)))
  (try simp only [Act.put, List.setIfInBounds_toArray, List.set_cons_zero, List.set_cons_succ])
  go_cut [24] (fun v24 wc => ∃ (kq : Nat) (x24_5 : Bool), v24 = .bool x24_5 ∧ Aside0 (ferrulelaw08_NameCuts.j0 kq a0 a1 a2 x24_5 = some r) ∧ Aside0 (kq ≤ k) ∧ Aside0 (Below w.heap.size w wc))
  case first =>
   have H := HC6.out
   clear HC6
   by_cases c8 : (a0.size : Int) = 0
   ·rw [if_pos c8] at H
    have c8b0 : ((a0.size : Int) == 0) = true := beq_iff_eq.mpr c8
    have c8b1 : ((a0.size : Int) != 0) = false := bne_eq_false_iff_eq.mpr c8
    clear c8
    (first | rw [c8b0] | (simp only [i64_w, i32_w]; rw [c8b0]) | skip)
    have H' := Aside0.mk H
    clear H
    go_wp2
    go_meet
    case rel => exact ⟨_, (true), bS, H', ⟨by first | omega | exact Nat.le_refl _⟩, ⟨bB⟩⟩
   ·rw [if_neg c8] at H
    have c8b0 : ((a0.size : Int) == 0) = false := beq_eq_false_iff_ne.mpr c8
    have c8b1 : ((a0.size : Int) != 0) = true := bne_iff_ne.mpr c8
    (first | rw [c8b0] | (simp only [i64_w, i32_w]; rw [c8b0]) | skip)
    by_cases c9 : (a0.size : Int) > 300
    ·rw [if_pos c9] at H
     have c9b0 : decide (300 < (a0.size : Int)) = true := decide_eq_true c9
     have c9b1 : decide (300 < a0.size) = true := decide_eq_true (by omega)
     clear c9
     have H' := Aside0.mk H
     clear H
     go_wp2
     go_meet
     case rel => exact ⟨_, (true), bS, H', ⟨by first | omega | exact Nat.le_refl _⟩, ⟨bB⟩⟩
    ·rw [if_neg c9] at H
     have c9b0 : decide (300 < (a0.size : Int)) = false := decide_eq_false c9
     have c9b1 : decide (300 < a0.size) = false := decide_eq_false (by omega)
     clear c9
     replace H := Option.bind_eq_some_iff.mp H
     obtain ⟨t102, A100, H⟩ := H
     replace H : (ferrulelaw08_NameCuts.j0 k a0 a1 a2 (!t102)) = some r := H
     have A10 := Aside0.mk A100
     clear A100
     have H' := Aside0.mk H
     clear H
     go_wp2_with (first | (go_at_call 15; (with_reducible refine (name_Good.calls k a0 t102 _ A10.out).mono ?_); rintro e w11 ⟨rfl, hb⟩; replace HB := aB HB hb; (try clear hb); (try clear hb2); (try clear hk); (try clear hi)))
     go_meet
     case rel => exact ⟨_, (!t102), bS, H', ⟨by first | omega | exact Nat.le_refl _⟩, ⟨bB⟩⟩
  case rest =>
   clear HC6
   try clear c1
   try clear p2
   try clear c5
   try clear p6
   try clear c8
   try clear c8b0
   try clear c8b1
   try clear c9
   try clear c9b0
   try clear c9b1
   obtain ⟨kq, x24_5, rfl, HA, HJ5, HB⟩ := hcut
   cases kq with
   | zero => exact absurd HA.out (by simp [ferrulelaw08_NameCuts.j0])
   | succ kj5 =>
    have H := HA.out
    clear HA
    simp only [ferrulelaw08_NameCuts.j0] at H
    by_cases c12 : x24_5 = true
    ·subst c12
     have H1 : (some true) = some r := by rw [if_pos rfl] at H; exact H
     clear H
     have H := H1
     clear H1
     obtain rfl := Option.some.inj H
     go_wp2
     go_ret
     exact ⟨by first | rfl | (simp [errW_none, errW_some] <;> rfl) | (simp [*, errW_none, errW_some] <;> rfl), bB⟩
    ·replace c12 := Bool.eq_false_iff.mpr c12
     subst c12
     have H1 : (if (a0.size : Int) = 0 then (none) else ((some (bytesOf a0 : List Int)).bind fun y103 => (if y103.length + 1 ≤ 140737488355328 then ((name_Scan.f kj5 (y103 ++ [a2]) 0).bind fun bt107 => (if 0 ≤ (wrap64 (1 + (Int.tmod (wrap64 (a1)) (a0.size : Int)))) then (if (wrap64 (1 + (Int.tmod (wrap64 (a1)) (a0.size : Int)))) ≤ (a0.size : Int) then ((some (a0.extract 0 ((wrap64 (1 + (Int.tmod (wrap64 (a1)) (a0.size : Int)))) : Int).toNat : ByteArray)).bind fun sx109 => ((name_Good.f kj5 sx109).bind fun t110 => (if t110 = true then ((ferruleref08_First.f a2).bind fun t111 => (if t111 = true then (some ((bt107.1 == (wrap64 ((a0.size : Int) + 1))) == (bt107.2 == 0))) else (if a2 = 45 then (some ((bt107.1 == (wrap64 ((a0.size : Int) + 1))) == (bt107.2 == 0))) else (if a2 = 95 then (some ((bt107.1 == (wrap64 ((a0.size : Int) + 1))) == (bt107.2 == 0))) else (if a2 = 46 then (some ((bt107.1 == (wrap64 ((a0.size : Int) + 1))) == (bt107.2 == 0))) else (if bt107.1 = (a0.size : Int) then (some (bt107.2 == 0)) else (some false))))))) else (some false)))) else (none)) else (none))) else (none)))) = some r := by rw [if_neg (show ¬ (false = true) by decide)] at H; exact H
     clear H
     have H := H1
     clear H1
     by_cases c13 : (a0.size : Int) = 0
     ·rw [if_pos c13] at H
      exact absurd H (by simp)
     ·rw [if_neg c13] at H
      have c13b0 : ((a0.size : Int) == 0) = false := beq_eq_false_iff_ne.mpr c13
      have c13b1 : ((a0.size : Int) != 0) = true := bne_iff_ne.mpr c13
      obtain ⟨y103, hy103⟩ : ∃ y_ : List Int, y_ = (bytesOf a0) := ⟨_, rfl⟩
      replace H : (if y103.length + 1 ≤ 140737488355328 then ((name_Scan.f kj5 (y103 ++ [a2]) 0).bind fun bt107 => (if 0 ≤ (wrap64 (1 + (Int.tmod (wrap64 (a1)) (a0.size : Int)))) then (if (wrap64 (1 + (Int.tmod (wrap64 (a1)) (a0.size : Int)))) ≤ (a0.size : Int) then ((some (a0.extract 0 ((wrap64 (1 + (Int.tmod (wrap64 (a1)) (a0.size : Int)))) : Int).toNat : ByteArray)).bind fun sx109 => ((name_Good.f kj5 sx109).bind fun t110 => (if t110 = true then ((ferruleref08_First.f a2).bind fun t111 => (if t111 = true then (some ((bt107.1 == (wrap64 ((a0.size : Int) + 1))) == (bt107.2 == 0))) else (if a2 = 45 then (some ((bt107.1 == (wrap64 ((a0.size : Int) + 1))) == (bt107.2 == 0))) else (if a2 = 95 then (some ((bt107.1 == (wrap64 ((a0.size : Int) + 1))) == (bt107.2 == 0))) else (if a2 = 46 then (some ((bt107.1 == (wrap64 ((a0.size : Int) + 1))) == (bt107.2 == 0))) else (if bt107.1 = (a0.size : Int) then (some (bt107.2 == 0)) else (some false))))))) else (some false)))) else (none)) else (none))) else (none)) = some r := by first | (rw [hy103]; with_reducible exact H) | (have H2_ := (Option.bind_some _ _).symm.trans H; rw [hy103]; with_reducible exact H2_) | (have H2_ := (Option.bind_some _ _).symm.trans H; with_reducible exact H2_) | with_reducible exact H | (rw [hy103]; exact H) | exact H
      have Ny103 := Aside0.mk hy103
      clear hy103
      by_cases c14 : y103.length + 1 ≤ 140737488355328
      ·rw [if_pos c14] at H
       have c14b0 := eq_true c14
       have c14b1 : decide (y103.length + 1 ≤ 140737488355328) = true := decide_eq_true c14
       obtain ⟨y105, hy105⟩ : ∃ y_ : List Int, y_ = (y103 ++ [a2]) := ⟨_, rfl⟩
       replace H : ((name_Scan.f kj5 y105 0).bind fun bt107 => (if 0 ≤ (wrap64 (1 + (Int.tmod (wrap64 (a1)) (a0.size : Int)))) then (if (wrap64 (1 + (Int.tmod (wrap64 (a1)) (a0.size : Int)))) ≤ (a0.size : Int) then ((some (a0.extract 0 ((wrap64 (1 + (Int.tmod (wrap64 (a1)) (a0.size : Int)))) : Int).toNat : ByteArray)).bind fun sx109 => ((name_Good.f kj5 sx109).bind fun t110 => (if t110 = true then ((ferruleref08_First.f a2).bind fun t111 => (if t111 = true then (some ((bt107.1 == (wrap64 ((a0.size : Int) + 1))) == (bt107.2 == 0))) else (if a2 = 45 then (some ((bt107.1 == (wrap64 ((a0.size : Int) + 1))) == (bt107.2 == 0))) else (if a2 = 95 then (some ((bt107.1 == (wrap64 ((a0.size : Int) + 1))) == (bt107.2 == 0))) else (if a2 = 46 then (some ((bt107.1 == (wrap64 ((a0.size : Int) + 1))) == (bt107.2 == 0))) else (if bt107.1 = (a0.size : Int) then (some (bt107.2 == 0)) else (some false))))))) else (some false)))) else (none)) else (none))) = some r := by first | (rw [hy105]; with_reducible exact H) | (have H2_ := (Option.bind_some _ _).symm.trans H; rw [hy105]; with_reducible exact H2_) | (have H2_ := (Option.bind_some _ _).symm.trans H; with_reducible exact H2_) | with_reducible exact H | (rw [hy105]; exact H) | exact H
       have Ny105 := Aside0.mk hy105
       clear hy105
       replace H := Option.bind_eq_some_iff.mp H
       obtain ⟨⟨t107, t108⟩, A150, H⟩ := H
       replace H : (if 0 ≤ (wrap64 (1 + (Int.tmod (wrap64 (a1)) (a0.size : Int)))) then (if (wrap64 (1 + (Int.tmod (wrap64 (a1)) (a0.size : Int)))) ≤ (a0.size : Int) then ((some (a0.extract 0 ((wrap64 (1 + (Int.tmod (wrap64 (a1)) (a0.size : Int)))) : Int).toNat : ByteArray)).bind fun sx109 => ((name_Good.f kj5 sx109).bind fun t110 => (if t110 = true then ((ferruleref08_First.f a2).bind fun t111 => (if t111 = true then (some ((t107 == (wrap64 ((a0.size : Int) + 1))) == (t108 == 0))) else (if a2 = 45 then (some ((t107 == (wrap64 ((a0.size : Int) + 1))) == (t108 == 0))) else (if a2 = 95 then (some ((t107 == (wrap64 ((a0.size : Int) + 1))) == (t108 == 0))) else (if a2 = 46 then (some ((t107 == (wrap64 ((a0.size : Int) + 1))) == (t108 == 0))) else (if t107 = (a0.size : Int) then (some (t108 == 0)) else (some false))))))) else (some false)))) else (none)) else (none)) = some r := H
       have A15 := Aside0.mk A150
       clear A150
       obtain ⟨ji16, hji16⟩ : ∃ j_ : Int, (wrap64 (1 + (Int.tmod (wrap64 (a1)) (a0.size : Int)))) = j_ := ⟨_, rfl⟩
       replace H : (if 0 ≤ (ji16) then (if (ji16) ≤ (a0.size : Int) then ((some (a0.extract 0 ((ji16) : Int).toNat : ByteArray)).bind fun sx109 => ((name_Good.f kj5 sx109).bind fun t110 => (if t110 = true then ((ferruleref08_First.f a2).bind fun t111 => (if t111 = true then (some ((t107 == (wrap64 ((a0.size : Int) + 1))) == (t108 == 0))) else (if a2 = 45 then (some ((t107 == (wrap64 ((a0.size : Int) + 1))) == (t108 == 0))) else (if a2 = 95 then (some ((t107 == (wrap64 ((a0.size : Int) + 1))) == (t108 == 0))) else (if a2 = 46 then (some ((t107 == (wrap64 ((a0.size : Int) + 1))) == (t108 == 0))) else (if t107 = (a0.size : Int) then (some (t108 == 0)) else (some false))))))) else (some false)))) else (none)) else (none)) = some r := by first | (rw [hji16] at H; exact H) | (simp only [hji16] at H ⊢; exact H)
       (try rw [hji16] at A15)
       have hji16w : (IntKind.i64.wrap (1 + (Int.tmod (wrap64 (a1)) (a0.size : Int)))) = ji16 := (i64_w _).trans hji16
       by_cases c17 : 0 ≤ (ji16)
       ·rw [if_pos c17] at H
        have c17b0 := eq_true c17
        have c17b1 : decide (0 ≤ (ji16)) = true := decide_eq_true c17
        clear c17
        by_cases c18 : (ji16) ≤ (a0.size : Int)
        ·rw [if_pos c18] at H
         have c18b0 := eq_true c18
         have c18b1 : decide ((ji16) ≤ (a0.size : Int)) = true := decide_eq_true c18
         clear c18
         obtain ⟨sx109, hsx109⟩ : ∃ y_ : ByteArray, (a0.extract 0 ((ji16) : Int).toNat) = y_ := ⟨_, rfl⟩
         replace H : ((name_Good.f kj5 sx109).bind fun t110 => (if t110 = true then ((ferruleref08_First.f a2).bind fun t111 => (if t111 = true then (some ((t107 == (wrap64 ((a0.size : Int) + 1))) == (t108 == 0))) else (if a2 = 45 then (some ((t107 == (wrap64 ((a0.size : Int) + 1))) == (t108 == 0))) else (if a2 = 95 then (some ((t107 == (wrap64 ((a0.size : Int) + 1))) == (t108 == 0))) else (if a2 = 46 then (some ((t107 == (wrap64 ((a0.size : Int) + 1))) == (t108 == 0))) else (if t107 = (a0.size : Int) then (some (t108 == 0)) else (some false))))))) else (some false))) = some r := by rw [← hsx109]; exact H
         replace H := Option.bind_eq_some_iff.mp H
         obtain ⟨t110, A190, H⟩ := H
         replace H : (if t110 = true then ((ferruleref08_First.f a2).bind fun t111 => (if t111 = true then (some ((t107 == (wrap64 ((a0.size : Int) + 1))) == (t108 == 0))) else (if a2 = 45 then (some ((t107 == (wrap64 ((a0.size : Int) + 1))) == (t108 == 0))) else (if a2 = 95 then (some ((t107 == (wrap64 ((a0.size : Int) + 1))) == (t108 == 0))) else (if a2 = 46 then (some ((t107 == (wrap64 ((a0.size : Int) + 1))) == (t108 == 0))) else (if t107 = (a0.size : Int) then (some (t108 == 0)) else (some false))))))) else (some false)) = some r := H
         have A19 := Aside0.mk A190
         clear A190
         by_cases c20 : t110 = true
         ·subst c20
          have H1 : ((ferruleref08_First.f a2).bind fun t111 => (if t111 = true then (some ((t107 == (wrap64 ((a0.size : Int) + 1))) == (t108 == 0))) else (if a2 = 45 then (some ((t107 == (wrap64 ((a0.size : Int) + 1))) == (t108 == 0))) else (if a2 = 95 then (some ((t107 == (wrap64 ((a0.size : Int) + 1))) == (t108 == 0))) else (if a2 = 46 then (some ((t107 == (wrap64 ((a0.size : Int) + 1))) == (t108 == 0))) else (if t107 = (a0.size : Int) then (some (t108 == 0)) else (some false))))))) = some r := by rw [if_pos rfl] at H; exact H
          clear H
          have H := H1
          clear H1
          replace H := Option.bind_eq_some_iff.mp H
          obtain ⟨t111, A210, H⟩ := H
          replace H : (if t111 = true then (some ((t107 == (wrap64 ((a0.size : Int) + 1))) == (t108 == 0))) else (if a2 = 45 then (some ((t107 == (wrap64 ((a0.size : Int) + 1))) == (t108 == 0))) else (if a2 = 95 then (some ((t107 == (wrap64 ((a0.size : Int) + 1))) == (t108 == 0))) else (if a2 = 46 then (some ((t107 == (wrap64 ((a0.size : Int) + 1))) == (t108 == 0))) else (if t107 = (a0.size : Int) then (some (t108 == 0)) else (some false)))))) = some r := H
          have A21 := Aside0.mk A210
          clear A210
          by_cases c22 : t111 = true
          ·subst c22
           have H1 : (some ((t107 == (wrap64 ((a0.size : Int) + 1))) == (t108 == 0))) = some r := by rw [if_pos rfl] at H; exact H
           clear H
           have H := H1
           clear H1
           obtain rfl := Option.some.inj H
           go_wp2_with (first | ((with_reducible refine gate_dst (N := 33) rfl ?_); (try (refine gate_guard (by rfl) ?_; dsimp only)); refine Lab.raw_event (N := 33) (s := a0) (x := .tmp 32) ?hg ?hd ?ho ?hx Try.underlying9 Try.underlying22 Try.underlying5 ?_; (case hd => rfl); (case hg => rfl); (case ho => rfl); (case hx => first | rfl | (simp; done)); intro kz104 cz104 w23 hX_ hb; rw [← Ny103.out] at hX_; (try rw [← Ny103.out]); have HX104 := Aside0.mk (Lab.Raw.lower hX_ (below_size bB)); replace HB := aB HB hb; (try clear hb); (try clear hX_)) | ((with_reducible refine gate_builtin (b := .append) (xs := #[.tmp 33, .tmp 35]) rfl ?_); (try (refine gate_guard (by rfl) ?_; dsimp only)); at_builtin; refine Lab.put_event' (N := 36) (v := a2) (s := .tmp 33) (y := .tmp 35) (t := 22) HX104.out (below_size bB) ?hg ?hd ?ho ?hs ?hy Try.underlying22 (by kernel_rfl) oD ?_; (case hd => rfl); (case hg => rfl); (case ho => rfl); (case hs => first | rfl | (simp; done)); (case hy => first | rfl | (simp; done)); intro Az106 cz106 w24 hC_ hR_ hb; rw [← Ny105.out] at hC_ hR_; (try rw [← Ny105.out]); replace HB := Aside0.mk (hb _ bB); have HR106 := Aside0.mk hC_; have HC106 := Aside0.mk hR_; (try clear hb); (try clear hC_); (try clear hR_)) | ((with_reducible refine gate_callee (f := 13) rfl ?_); refine goesL_ (some 37) rfl rfl Try.func13 (by kernel_rfl) rfl #[.slice Az106 y105.length cz106, .int .i64 0] rfl bM ?_; (with_reducible refine (name_Scan.calls kj5 _ _ y105 0 t107 t108 _ ?side1 ?side2 A15.out).mono ?_); (case side1 => exact aCw HR106); (case side2 => exact HC106.out); rintro e w' ⟨rfl, ⟨nd, rfl⟩⟩; refine ⟨_, rfl, ?_⟩) | ((with_reducible refine gate_callee (f := 15) rfl ?_); refine goesL_ (some 43) rfl rfl Try.func15 (by kernel_rfl) rfl #[.string sx109] rfl bM ?_; (with_reducible refine (name_Good.calls kj5 sx109 true _ A19.out).mono ?_); rintro e w25 ⟨rfl, hb⟩; refine ⟨_, rfl, ?_⟩; replace HR106 := aC HR106 hb; replace HB := aB HB hb; (try clear hb); (try clear hb2); (try clear hk); (try clear hi)) | ((with_reducible refine gate_callee (f := 19) rfl ?_); refine goesL_ (some 46) rfl rfl Try.func19 (by kernel_rfl) rfl #[.int .u8 a2] rfl bM ?_; (with_reducible refine (ferruleref08_First.calls a2 true _ A21.out).mono ?_); rintro e w' ⟨rfl, ⟨nd, rfl⟩⟩; refine ⟨_, rfl, ?_⟩))
           go_ret
           exact ⟨by first | rfl | (simp [errW_none, errW_some] <;> rfl) | (simp only [← hji16]; first | rfl | (simp [errW_none, errW_some] <;> rfl)) | (simp [*, errW_none, errW_some] <;> rfl), bB⟩
          ·replace c22 := Bool.eq_false_iff.mpr c22
           subst c22
           have H1 : (if a2 = 45 then (some ((t107 == (wrap64 ((a0.size : Int) + 1))) == (t108 == 0))) else (if a2 = 95 then (some ((t107 == (wrap64 ((a0.size : Int) + 1))) == (t108 == 0))) else (if a2 = 46 then (some ((t107 == (wrap64 ((a0.size : Int) + 1))) == (t108 == 0))) else (if t107 = (a0.size : Int) then (some (t108 == 0)) else (some false))))) = some r := by rw [if_neg (show ¬ (false = true) by decide)] at H; exact H
           clear H
           have H := H1
           clear H1
           by_cases c26 : a2 = 45
           ·rw [if_pos c26] at H
            have c26b0 : (a2 == 45) = true := beq_iff_eq.mpr c26
            have c26b1 : (a2 != 45) = false := bne_eq_false_iff_eq.mpr c26
            clear c26
            obtain rfl := Option.some.inj H
            go_wp2_with (first | ((with_reducible refine gate_dst (N := 33) rfl ?_); (try (refine gate_guard (by rfl) ?_; dsimp only)); refine Lab.raw_event (N := 33) (s := a0) (x := .tmp 32) ?hg ?hd ?ho ?hx Try.underlying9 Try.underlying22 Try.underlying5 ?_; (case hd => rfl); (case hg => rfl); (case ho => rfl); (case hx => first | rfl | (simp; done)); intro kz104 cz104 w27 hX_ hb; rw [← Ny103.out] at hX_; (try rw [← Ny103.out]); have HX104 := Aside0.mk (Lab.Raw.lower hX_ (below_size bB)); replace HB := aB HB hb; (try clear hb); (try clear hX_)) | ((with_reducible refine gate_builtin (b := .append) (xs := #[.tmp 33, .tmp 35]) rfl ?_); (try (refine gate_guard (by rfl) ?_; dsimp only)); at_builtin; refine Lab.put_event' (N := 36) (v := a2) (s := .tmp 33) (y := .tmp 35) (t := 22) HX104.out (below_size bB) ?hg ?hd ?ho ?hs ?hy Try.underlying22 (by kernel_rfl) oD ?_; (case hd => rfl); (case hg => rfl); (case ho => rfl); (case hs => first | rfl | (simp; done)); (case hy => first | rfl | (simp; done)); intro Az106 cz106 w28 hC_ hR_ hb; rw [← Ny105.out] at hC_ hR_; (try rw [← Ny105.out]); replace HB := Aside0.mk (hb _ bB); have HR106 := Aside0.mk hC_; have HC106 := Aside0.mk hR_; (try clear hb); (try clear hC_); (try clear hR_)) | ((with_reducible refine gate_callee (f := 13) rfl ?_); refine goesL_ (some 37) rfl rfl Try.func13 (by kernel_rfl) rfl #[.slice Az106 y105.length cz106, .int .i64 0] rfl bM ?_; (with_reducible refine (name_Scan.calls kj5 _ _ y105 0 t107 t108 _ ?side1 ?side2 A15.out).mono ?_); (case side1 => exact aCw HR106); (case side2 => exact HC106.out); rintro e w' ⟨rfl, ⟨nd, rfl⟩⟩; refine ⟨_, rfl, ?_⟩) | ((with_reducible refine gate_callee (f := 15) rfl ?_); refine goesL_ (some 43) rfl rfl Try.func15 (by kernel_rfl) rfl #[.string sx109] rfl bM ?_; (with_reducible refine (name_Good.calls kj5 sx109 true _ A19.out).mono ?_); rintro e w29 ⟨rfl, hb⟩; refine ⟨_, rfl, ?_⟩; replace HR106 := aC HR106 hb; replace HB := aB HB hb; (try clear hb); (try clear hb2); (try clear hk); (try clear hi)) | ((with_reducible refine gate_callee (f := 19) rfl ?_); refine goesL_ (some 46) rfl rfl Try.func19 (by kernel_rfl) rfl #[.int .u8 a2] rfl bM ?_; (with_reducible refine (ferruleref08_First.calls a2 false _ A21.out).mono ?_); rintro e w' ⟨rfl, ⟨nd, rfl⟩⟩; refine ⟨_, rfl, ?_⟩))
            go_ret
            exact ⟨by first | rfl | (simp [errW_none, errW_some] <;> rfl) | (simp only [← hji16]; first | rfl | (simp [errW_none, errW_some] <;> rfl)) | (simp [*, errW_none, errW_some] <;> rfl), bB⟩
           ·rw [if_neg c26] at H
            have c26b0 : (a2 == 45) = false := beq_eq_false_iff_ne.mpr c26
            have c26b1 : (a2 != 45) = true := bne_iff_ne.mpr c26
            by_cases c30 : a2 = 95
            ·rw [if_pos c30] at H
             have c30b0 : (a2 == 95) = true := beq_iff_eq.mpr c30
             have c30b1 : (a2 != 95) = false := bne_eq_false_iff_eq.mpr c30
             clear c30
             obtain rfl := Option.some.inj H
             go_wp2_with (first | ((with_reducible refine gate_dst (N := 33) rfl ?_); (try (refine gate_guard (by rfl) ?_; dsimp only)); refine Lab.raw_event (N := 33) (s := a0) (x := .tmp 32) ?hg ?hd ?ho ?hx Try.underlying9 Try.underlying22 Try.underlying5 ?_; (case hd => rfl); (case hg => rfl); (case ho => rfl); (case hx => first | rfl | (simp; done)); intro kz104 cz104 w31 hX_ hb; rw [← Ny103.out] at hX_; (try rw [← Ny103.out]); have HX104 := Aside0.mk (Lab.Raw.lower hX_ (below_size bB)); replace HB := aB HB hb; (try clear hb); (try clear hX_)) | ((with_reducible refine gate_builtin (b := .append) (xs := #[.tmp 33, .tmp 35]) rfl ?_); (try (refine gate_guard (by rfl) ?_; dsimp only)); at_builtin; refine Lab.put_event' (N := 36) (v := a2) (s := .tmp 33) (y := .tmp 35) (t := 22) HX104.out (below_size bB) ?hg ?hd ?ho ?hs ?hy Try.underlying22 (by kernel_rfl) oD ?_; (case hd => rfl); (case hg => rfl); (case ho => rfl); (case hs => first | rfl | (simp; done)); (case hy => first | rfl | (simp; done)); intro Az106 cz106 w32 hC_ hR_ hb; rw [← Ny105.out] at hC_ hR_; (try rw [← Ny105.out]); replace HB := Aside0.mk (hb _ bB); have HR106 := Aside0.mk hC_; have HC106 := Aside0.mk hR_; (try clear hb); (try clear hC_); (try clear hR_)) | ((with_reducible refine gate_callee (f := 13) rfl ?_); refine goesL_ (some 37) rfl rfl Try.func13 (by kernel_rfl) rfl #[.slice Az106 y105.length cz106, .int .i64 0] rfl bM ?_; (with_reducible refine (name_Scan.calls kj5 _ _ y105 0 t107 t108 _ ?side1 ?side2 A15.out).mono ?_); (case side1 => exact aCw HR106); (case side2 => exact HC106.out); rintro e w' ⟨rfl, ⟨nd, rfl⟩⟩; refine ⟨_, rfl, ?_⟩) | ((with_reducible refine gate_callee (f := 15) rfl ?_); refine goesL_ (some 43) rfl rfl Try.func15 (by kernel_rfl) rfl #[.string sx109] rfl bM ?_; (with_reducible refine (name_Good.calls kj5 sx109 true _ A19.out).mono ?_); rintro e w33 ⟨rfl, hb⟩; refine ⟨_, rfl, ?_⟩; replace HR106 := aC HR106 hb; replace HB := aB HB hb; (try clear hb); (try clear hb2); (try clear hk); (try clear hi)) | ((with_reducible refine gate_callee (f := 19) rfl ?_); refine goesL_ (some 46) rfl rfl Try.func19 (by kernel_rfl) rfl #[.int .u8 a2] rfl bM ?_; (with_reducible refine (ferruleref08_First.calls a2 false _ A21.out).mono ?_); rintro e w' ⟨rfl, ⟨nd, rfl⟩⟩; refine ⟨_, rfl, ?_⟩))
             go_ret
             exact ⟨by first | rfl | (simp [errW_none, errW_some] <;> rfl) | (simp only [← hji16]; first | rfl | (simp [errW_none, errW_some] <;> rfl)) | (simp [*, errW_none, errW_some] <;> rfl), bB⟩
            ·rw [if_neg c30] at H
             have c30b0 : (a2 == 95) = false := beq_eq_false_iff_ne.mpr c30
             have c30b1 : (a2 != 95) = true := bne_iff_ne.mpr c30
             by_cases c34 : a2 = 46
             ·rw [if_pos c34] at H
              have c34b0 : (a2 == 46) = true := beq_iff_eq.mpr c34
              have c34b1 : (a2 != 46) = false := bne_eq_false_iff_eq.mpr c34
              clear c34
              obtain rfl := Option.some.inj H
              go_wp2_with (first | ((with_reducible refine gate_dst (N := 33) rfl ?_); (try (refine gate_guard (by rfl) ?_; dsimp only)); refine Lab.raw_event (N := 33) (s := a0) (x := .tmp 32) ?hg ?hd ?ho ?hx Try.underlying9 Try.underlying22 Try.underlying5 ?_; (case hd => rfl); (case hg => rfl); (case ho => rfl); (case hx => first | rfl | (simp; done)); intro kz104 cz104 w35 hX_ hb; rw [← Ny103.out] at hX_; (try rw [← Ny103.out]); have HX104 := Aside0.mk (Lab.Raw.lower hX_ (below_size bB)); replace HB := aB HB hb; (try clear hb); (try clear hX_)) | ((with_reducible refine gate_builtin (b := .append) (xs := #[.tmp 33, .tmp 35]) rfl ?_); (try (refine gate_guard (by rfl) ?_; dsimp only)); at_builtin; refine Lab.put_event' (N := 36) (v := a2) (s := .tmp 33) (y := .tmp 35) (t := 22) HX104.out (below_size bB) ?hg ?hd ?ho ?hs ?hy Try.underlying22 (by kernel_rfl) oD ?_; (case hd => rfl); (case hg => rfl); (case ho => rfl); (case hs => first | rfl | (simp; done)); (case hy => first | rfl | (simp; done)); intro Az106 cz106 w36 hC_ hR_ hb; rw [← Ny105.out] at hC_ hR_; (try rw [← Ny105.out]); replace HB := Aside0.mk (hb _ bB); have HR106 := Aside0.mk hC_; have HC106 := Aside0.mk hR_; (try clear hb); (try clear hC_); (try clear hR_)) | ((with_reducible refine gate_callee (f := 13) rfl ?_); refine goesL_ (some 37) rfl rfl Try.func13 (by kernel_rfl) rfl #[.slice Az106 y105.length cz106, .int .i64 0] rfl bM ?_; (with_reducible refine (name_Scan.calls kj5 _ _ y105 0 t107 t108 _ ?side1 ?side2 A15.out).mono ?_); (case side1 => exact aCw HR106); (case side2 => exact HC106.out); rintro e w' ⟨rfl, ⟨nd, rfl⟩⟩; refine ⟨_, rfl, ?_⟩) | ((with_reducible refine gate_callee (f := 15) rfl ?_); refine goesL_ (some 43) rfl rfl Try.func15 (by kernel_rfl) rfl #[.string sx109] rfl bM ?_; (with_reducible refine (name_Good.calls kj5 sx109 true _ A19.out).mono ?_); rintro e w37 ⟨rfl, hb⟩; refine ⟨_, rfl, ?_⟩; replace HR106 := aC HR106 hb; replace HB := aB HB hb; (try clear hb); (try clear hb2); (try clear hk); (try clear hi)) | ((with_reducible refine gate_callee (f := 19) rfl ?_); refine goesL_ (some 46) rfl rfl Try.func19 (by kernel_rfl) rfl #[.int .u8 a2] rfl bM ?_; (with_reducible refine (ferruleref08_First.calls a2 false _ A21.out).mono ?_); rintro e w' ⟨rfl, ⟨nd, rfl⟩⟩; refine ⟨_, rfl, ?_⟩))
              go_ret
              exact ⟨by first | rfl | (simp [errW_none, errW_some] <;> rfl) | (simp only [← hji16]; first | rfl | (simp [errW_none, errW_some] <;> rfl)) | (simp [*, errW_none, errW_some] <;> rfl), bB⟩
             ·rw [if_neg c34] at H
              have c34b0 : (a2 == 46) = false := beq_eq_false_iff_ne.mpr c34
              have c34b1 : (a2 != 46) = true := bne_iff_ne.mpr c34
              by_cases c38 : t107 = (a0.size : Int)
              ·rw [if_pos c38] at H
               have c38b0 : (t107 == (a0.size : Int)) = true := beq_iff_eq.mpr c38
               have c38b1 : (t107 != (a0.size : Int)) = false := bne_eq_false_iff_eq.mpr c38
               clear c38
               obtain rfl := Option.some.inj H
               go_wp2_with (first | ((with_reducible refine gate_dst (N := 33) rfl ?_); (try (refine gate_guard (by rfl) ?_; dsimp only)); refine Lab.raw_event (N := 33) (s := a0) (x := .tmp 32) ?hg ?hd ?ho ?hx Try.underlying9 Try.underlying22 Try.underlying5 ?_; (case hd => rfl); (case hg => rfl); (case ho => rfl); (case hx => first | rfl | (simp; done)); intro kz104 cz104 w39 hX_ hb; rw [← Ny103.out] at hX_; (try rw [← Ny103.out]); have HX104 := Aside0.mk (Lab.Raw.lower hX_ (below_size bB)); replace HB := aB HB hb; (try clear hb); (try clear hX_)) | ((with_reducible refine gate_builtin (b := .append) (xs := #[.tmp 33, .tmp 35]) rfl ?_); (try (refine gate_guard (by rfl) ?_; dsimp only)); at_builtin; refine Lab.put_event' (N := 36) (v := a2) (s := .tmp 33) (y := .tmp 35) (t := 22) HX104.out (below_size bB) ?hg ?hd ?ho ?hs ?hy Try.underlying22 (by kernel_rfl) oD ?_; (case hd => rfl); (case hg => rfl); (case ho => rfl); (case hs => first | rfl | (simp; done)); (case hy => first | rfl | (simp; done)); intro Az106 cz106 w40 hC_ hR_ hb; rw [← Ny105.out] at hC_ hR_; (try rw [← Ny105.out]); replace HB := Aside0.mk (hb _ bB); have HR106 := Aside0.mk hC_; have HC106 := Aside0.mk hR_; (try clear hb); (try clear hC_); (try clear hR_)) | ((with_reducible refine gate_callee (f := 13) rfl ?_); refine goesL_ (some 37) rfl rfl Try.func13 (by kernel_rfl) rfl #[.slice Az106 y105.length cz106, .int .i64 0] rfl bM ?_; (with_reducible refine (name_Scan.calls kj5 _ _ y105 0 t107 t108 _ ?side1 ?side2 A15.out).mono ?_); (case side1 => exact aCw HR106); (case side2 => exact HC106.out); rintro e w' ⟨rfl, ⟨nd, rfl⟩⟩; refine ⟨_, rfl, ?_⟩) | ((with_reducible refine gate_callee (f := 15) rfl ?_); refine goesL_ (some 43) rfl rfl Try.func15 (by kernel_rfl) rfl #[.string sx109] rfl bM ?_; (with_reducible refine (name_Good.calls kj5 sx109 true _ A19.out).mono ?_); rintro e w41 ⟨rfl, hb⟩; refine ⟨_, rfl, ?_⟩; replace HR106 := aC HR106 hb; replace HB := aB HB hb; (try clear hb); (try clear hb2); (try clear hk); (try clear hi)) | ((with_reducible refine gate_callee (f := 19) rfl ?_); refine goesL_ (some 46) rfl rfl Try.func19 (by kernel_rfl) rfl #[.int .u8 a2] rfl bM ?_; (with_reducible refine (ferruleref08_First.calls a2 false _ A21.out).mono ?_); rintro e w' ⟨rfl, ⟨nd, rfl⟩⟩; refine ⟨_, rfl, ?_⟩))
               go_ret
               exact ⟨by first | rfl | (simp [errW_none, errW_some] <;> rfl) | (simp only [← hji16]; first | rfl | (simp [errW_none, errW_some] <;> rfl)) | (simp [*, errW_none, errW_some] <;> rfl), bB⟩
              ·rw [if_neg c38] at H
               have c38b0 : (t107 == (a0.size : Int)) = false := beq_eq_false_iff_ne.mpr c38
               have c38b1 : (t107 != (a0.size : Int)) = true := bne_iff_ne.mpr c38
               obtain rfl := Option.some.inj H
               go_wp2_with (first | ((with_reducible refine gate_dst (N := 33) rfl ?_); (try (refine gate_guard (by rfl) ?_; dsimp only)); refine Lab.raw_event (N := 33) (s := a0) (x := .tmp 32) ?hg ?hd ?ho ?hx Try.underlying9 Try.underlying22 Try.underlying5 ?_; (case hd => rfl); (case hg => rfl); (case ho => rfl); (case hx => first | rfl | (simp; done)); intro kz104 cz104 w42 hX_ hb; rw [← Ny103.out] at hX_; (try rw [← Ny103.out]); have HX104 := Aside0.mk (Lab.Raw.lower hX_ (below_size bB)); replace HB := aB HB hb; (try clear hb); (try clear hX_)) | ((with_reducible refine gate_builtin (b := .append) (xs := #[.tmp 33, .tmp 35]) rfl ?_); (try (refine gate_guard (by rfl) ?_; dsimp only)); at_builtin; refine Lab.put_event' (N := 36) (v := a2) (s := .tmp 33) (y := .tmp 35) (t := 22) HX104.out (below_size bB) ?hg ?hd ?ho ?hs ?hy Try.underlying22 (by kernel_rfl) oD ?_; (case hd => rfl); (case hg => rfl); (case ho => rfl); (case hs => first | rfl | (simp; done)); (case hy => first | rfl | (simp; done)); intro Az106 cz106 w43 hC_ hR_ hb; rw [← Ny105.out] at hC_ hR_; (try rw [← Ny105.out]); replace HB := Aside0.mk (hb _ bB); have HR106 := Aside0.mk hC_; have HC106 := Aside0.mk hR_; (try clear hb); (try clear hC_); (try clear hR_)) | ((with_reducible refine gate_callee (f := 13) rfl ?_); refine goesL_ (some 37) rfl rfl Try.func13 (by kernel_rfl) rfl #[.slice Az106 y105.length cz106, .int .i64 0] rfl bM ?_; (with_reducible refine (name_Scan.calls kj5 _ _ y105 0 t107 t108 _ ?side1 ?side2 A15.out).mono ?_); (case side1 => exact aCw HR106); (case side2 => exact HC106.out); rintro e w' ⟨rfl, ⟨nd, rfl⟩⟩; refine ⟨_, rfl, ?_⟩) | ((with_reducible refine gate_callee (f := 15) rfl ?_); refine goesL_ (some 43) rfl rfl Try.func15 (by kernel_rfl) rfl #[.string sx109] rfl bM ?_; (with_reducible refine (name_Good.calls kj5 sx109 true _ A19.out).mono ?_); rintro e w44 ⟨rfl, hb⟩; refine ⟨_, rfl, ?_⟩; replace HR106 := aC HR106 hb; replace HB := aB HB hb; (try clear hb); (try clear hb2); (try clear hk); (try clear hi)) | ((with_reducible refine gate_callee (f := 19) rfl ?_); refine goesL_ (some 46) rfl rfl Try.func19 (by kernel_rfl) rfl #[.int .u8 a2] rfl bM ?_; (with_reducible refine (ferruleref08_First.calls a2 false _ A21.out).mono ?_); rintro e w' ⟨rfl, ⟨nd, rfl⟩⟩; refine ⟨_, rfl, ?_⟩))
               go_ret
               exact ⟨by first | rfl | (simp [errW_none, errW_some] <;> rfl) | (simp only [← hji16]; first | rfl | (simp [errW_none, errW_some] <;> rfl)) | (simp [*, errW_none, errW_some] <;> rfl), bB⟩
         ·replace c20 := Bool.eq_false_iff.mpr c20
          subst c20
          have H1 : (some false) = some r := by rw [if_neg (show ¬ (false = true) by decide)] at H; exact H
          clear H
          have H := H1
          clear H1
          obtain rfl := Option.some.inj H
          go_wp2_with (first | ((with_reducible refine gate_dst (N := 33) rfl ?_); (try (refine gate_guard (by rfl) ?_; dsimp only)); refine Lab.raw_event (N := 33) (s := a0) (x := .tmp 32) ?hg ?hd ?ho ?hx Try.underlying9 Try.underlying22 Try.underlying5 ?_; (case hd => rfl); (case hg => rfl); (case ho => rfl); (case hx => first | rfl | (simp; done)); intro kz104 cz104 w45 hX_ hb; rw [← Ny103.out] at hX_; (try rw [← Ny103.out]); have HX104 := Aside0.mk (Lab.Raw.lower hX_ (below_size bB)); replace HB := aB HB hb; (try clear hb); (try clear hX_)) | ((with_reducible refine gate_builtin (b := .append) (xs := #[.tmp 33, .tmp 35]) rfl ?_); (try (refine gate_guard (by rfl) ?_; dsimp only)); at_builtin; refine Lab.put_event' (N := 36) (v := a2) (s := .tmp 33) (y := .tmp 35) (t := 22) HX104.out (below_size bB) ?hg ?hd ?ho ?hs ?hy Try.underlying22 (by kernel_rfl) oD ?_; (case hd => rfl); (case hg => rfl); (case ho => rfl); (case hs => first | rfl | (simp; done)); (case hy => first | rfl | (simp; done)); intro Az106 cz106 w46 hC_ hR_ hb; rw [← Ny105.out] at hC_ hR_; (try rw [← Ny105.out]); replace HB := Aside0.mk (hb _ bB); have HR106 := Aside0.mk hC_; have HC106 := Aside0.mk hR_; (try clear hb); (try clear hC_); (try clear hR_)) | ((with_reducible refine gate_callee (f := 13) rfl ?_); refine goesL_ (some 37) rfl rfl Try.func13 (by kernel_rfl) rfl #[.slice Az106 y105.length cz106, .int .i64 0] rfl bM ?_; (with_reducible refine (name_Scan.calls kj5 _ _ y105 0 t107 t108 _ ?side1 ?side2 A15.out).mono ?_); (case side1 => exact aCw HR106); (case side2 => exact HC106.out); rintro e w' ⟨rfl, ⟨nd, rfl⟩⟩; refine ⟨_, rfl, ?_⟩) | ((with_reducible refine gate_callee (f := 15) rfl ?_); refine goesL_ (some 43) rfl rfl Try.func15 (by kernel_rfl) rfl #[.string sx109] rfl bM ?_; (with_reducible refine (name_Good.calls kj5 sx109 false _ A19.out).mono ?_); rintro e w47 ⟨rfl, hb⟩; refine ⟨_, rfl, ?_⟩; replace HR106 := aC HR106 hb; replace HB := aB HB hb; (try clear hb); (try clear hb2); (try clear hk); (try clear hi)))
          go_ret
          exact ⟨by first | rfl | (simp [errW_none, errW_some] <;> rfl) | (simp only [← hji16]; first | rfl | (simp [errW_none, errW_some] <;> rfl)) | (simp [*, errW_none, errW_some] <;> rfl), bB⟩
        ·rw [if_neg c18] at H
         exact absurd H (by simp)
       ·rw [if_neg c17] at H
        exact absurd H (by simp)
      ·rw [if_neg c14] at H
       exact absurd H (by simp)
 ·replace c5 := Bool.eq_false_iff.mpr c5
  subst c5
  have H1 : (some false) = some r := by rw [if_neg (show ¬ (false = true) by decide)] at H; exact H
  clear H
  have H := H1
  clear H1
  obtain rfl := Option.some.inj H
  go_enter Try.func5, Try.ntmps5
  go_wp2_with (first | ((with_reducible refine gate_callee (f := 12) rfl ?_); refine goesL_ (some 10) rfl rfl Try.func12 (by kernel_rfl) rfl #[] rfl bM ?_; (with_reducible refine (ferrulelaw08_awake.calls  false _ A4.out).mono ?_); rintro e w48 ⟨rfl, hb⟩; refine ⟨_, rfl, ?_⟩; replace HB := aB HB hb; (try clear hb); (try clear hb2); (try clear hk); (try clear hi)))
  go_ret
  exact ⟨by first | rfl | (simp [errW_none, errW_some] <;> rfl) | (simp [*, errW_none, errW_some] <;> rfl), bB⟩

/-- THE ONE PURE STATEMENT of ferrulelaw08_NameCuts: yours. -/
def ferrulelaw08_NameCuts.Pure : Prop := ∀ (a0 : ByteArray) (a1 : Int) (a2 : Int), a0.size ≤ 140737488351232 → (Lit.int .u8 a1).wf = true → (Lit.int .u8 a2).wf = true → ∃ k, ferrulelaw08_NameCuts.f k a0 a1 a2 = some true
theorem ferrulelaw08_NameCuts.walk (P : ferrulelaw08_NameCuts.Pure) (a0 : ByteArray) (a1 : Int) (a2 : Int) (w : World) (w0 : a0.size ≤ 140737488351232) (w1 : (Lit.int .u8 a1).wf = true) (w2 : (Lit.int .u8 a2).wf = true) :
  Calls Try.prog 5 #[.string a0, .int .u8 a1, .int .u8 a2] w fun e w' => e = .returned (.bool true) ∧ Below w.heap.size w w' := by
 obtain ⟨k, h⟩ := P a0 a1 a2 w0 w1 w2
 refine (ferrulelaw08_NameCuts.calls k a0 a1 a2 true w h).mono ?_
 rintro e w' ⟨rfl, hd⟩
 exact ⟨rfl, hd⟩

end Go.Proofs.Ytcebjhbphcoboaa.X
