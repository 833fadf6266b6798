-- Written by a program of this session (wip/xp), out of the translation. Not trusted: Lean checks it.
import Derived.Test.YtohgjbkiemnfnaaX0
import Derived.Test.YtohgjbkiemnfnaaXn38
import Derived.Test.YtohgjbkiemnfnaaXn30
import Derived.Test.YtohgjbkiemnfnaaXn39
-- shrunk
namespace Go.Proofs.Ytohgjbkiemnfnaa.X
open Go.RowKit Go.Proofs.YtohgjbkiemnfnaaW.PrintWords Go.Proofs.YtohgjbkiemnfnaaW.PrintLast Go.Proofs.YtohgjbkiemnfnaaW.PrintMore
attribute [local go_sem] Lab.str_gtr Lab.str_leq Lab.str_geq max2_int min2_int max_two min_two max_three min_three max_four min_four   -- for this text's walks alone
set_option linter.unusedVariables false
set_option linter.unusedSimpArgs false

/-! ### ferrulelaw12_ClauseOnes: function 10 -/
mutual
def ferrulelaw12_ClauseOnes.j0 : Nat → List Int → List Bool → Bool → Option (Bool)
 | 0, _, _, _ => none
 | k + 1, x0, x1, x17 => if x17 = true then (some true) else (ferrulelaw12_ClauseOnes.l0 k x0 x1 false true 0)
def ferrulelaw12_ClauseOnes.l0 : Nat → List Int → List Bool → Bool → Bool → Int → Option (Bool)
 | 0, _, _, _, _, _ => none
 | k + 1, x0, x1, x5, x6, x7 => if x7 < (x0.length : Int) then (if x5 = true then (if x6 = true then (if 0 ≤ x7 then (if x7 ≤ (wrap64 (x7 + 1)) then (if (wrap64 (x7 + 1)) ≤ (x0.length : Int) then ((clause_Fails.f ((x0.take ((wrap64 (x7 + 1)) : Int).toNat).drop (x7 : Int).toNat) x1).bind fun t103 => (ferrulelaw12_ClauseOnes.l0 k x0 x1 true t103 (wrap64 (x7 + 1)))) else (none)) else (none)) else (none)) else (ferrulelaw12_ClauseOnes.l0 k x0 x1 true false (wrap64 (x7 + 1)))) else (if 0 ≤ x7 then (if x7 ≤ (wrap64 (x7 + 1)) then (if (wrap64 (x7 + 1)) ≤ (x0.length : Int) then ((clause_Holds.f ((x0.take ((wrap64 (x7 + 1)) : Int).toNat).drop (x7 : Int).toNat) x1).bind fun t105 => (if x6 = true then ((clause_Fails.f ((x0.take ((wrap64 (x7 + 1)) : Int).toNat).drop (x7 : Int).toNat) x1).bind fun t107 => (ferrulelaw12_ClauseOnes.l0 k x0 x1 t105 t107 (wrap64 (x7 + 1)))) else (ferrulelaw12_ClauseOnes.l0 k x0 x1 t105 false (wrap64 (x7 + 1))))) else (none)) else (none)) else (none))) else ((clause_Holds.f x0 x1).bind fun t108 => (if (t108 == x5) = true then ((clause_Fails.f x0 x1).bind fun t109 => (some (t109 == x6))) else (some false)))
end
def ferrulelaw12_ClauseOnes.f (k : Nat) (l0 : List Int) (l1 : List Bool) : Option (Bool) := (ferrulelaw12_awake.f k).bind fun t101 => (if t101 = true then (if (l0.length : Int) > 60 then (ferrulelaw12_ClauseOnes.j0 k l0 l1 true) else (ferrulelaw12_ClauseOnes.j0 k l0 l1 (decide ((l1.length : Int) > 60)))) else (some false))
theorem ferrulelaw12_ClauseOnes.mono_l : ∀ k, (∀ y0 y1 y2, LeO (ferrulelaw12_ClauseOnes.j0 k y0 y1 y2) (ferrulelaw12_ClauseOnes.j0 (k + 1) y0 y1 y2)) ∧ (∀ y0 y1 y2 y3 y4, LeO (ferrulelaw12_ClauseOnes.l0 k y0 y1 y2 y3 y4) (ferrulelaw12_ClauseOnes.l0 (k + 1) y0 y1 y2 y3 y4))
 | 0 => ⟨fun _ _ _ r h => by simp [ferrulelaw12_ClauseOnes.j0] at h, fun _ _ _ _ _ r h => by simp [ferrulelaw12_ClauseOnes.l0] at h⟩
 | k + 1 => by
  obtain ⟨ih0, ih1⟩ := ferrulelaw12_ClauseOnes.mono_l k
  refine ⟨?_, ?_⟩
  ·intro y0 y1 y2
   unfold ferrulelaw12_ClauseOnes.j0
   repeat' first
   | (with_reducible exact ih0 _ _ _)
   | (with_reducible exact ih1 _ _ _ _ _)
   | (with_reducible exact ferrulelaw12_awake.mono _)
   | (with_reducible exact LeO.refl _)
   | (with_reducible exact LeO.none _)
   | (with_reducible refine LeO.ite ?_ ?_)
   | (with_reducible refine LeO.bind ?_ (fun _ => ?_))
   | exact ih0 _ _ _
   | exact ih1 _ _ _ _ _
   | exact ferrulelaw12_awake.mono _
   | exact LeO.none _
   | refine LeO.ite ?_ ?_
   | refine LeO.bind ?_ (fun _ => ?_)
  ·intro y0 y1 y2 y3 y4
   unfold ferrulelaw12_ClauseOnes.l0
   repeat' first
   | (with_reducible exact ih0 _ _ _)
   | (with_reducible exact ih1 _ _ _ _ _)
   | (with_reducible exact ferrulelaw12_awake.mono _)
   | (with_reducible exact LeO.refl _)
   | (with_reducible exact LeO.none _)
   | (with_reducible refine LeO.ite ?_ ?_)
   | (with_reducible refine LeO.bind ?_ (fun _ => ?_))
   | exact ih0 _ _ _
   | exact ih1 _ _ _ _ _
   | exact ferrulelaw12_awake.mono _
   | exact LeO.none _
   | refine LeO.ite ?_ ?_
   | refine LeO.bind ?_ (fun _ => ?_)
theorem ferrulelaw12_ClauseOnes.mono : ∀ a0 a1 k, LeO (ferrulelaw12_ClauseOnes.f k a0 a1) (ferrulelaw12_ClauseOnes.f (k + 1) a0 a1) := by
 intro a0 a1 k
 obtain ⟨ih0, ih1⟩ := ferrulelaw12_ClauseOnes.mono_l k
 unfold ferrulelaw12_ClauseOnes.f
 repeat' first
   | (with_reducible exact ih0 _ _ _)
   | (with_reducible exact ih1 _ _ _ _ _)
   | (with_reducible exact ferrulelaw12_awake.mono _)
   | (with_reducible exact LeO.refl _)
   | (with_reducible exact LeO.none _)
   | (with_reducible refine LeO.ite ?_ ?_)
   | (with_reducible refine LeO.bind ?_ (fun _ => ?_))
   | exact ih0 _ _ _
   | exact ih1 _ _ _ _ _
   | exact ferrulelaw12_awake.mono _
   | exact LeO.none _
   | refine LeO.ite ?_ ?_
   | refine LeO.bind ?_ (fun _ => ?_)
set_option maxHeartbeats 8000000 in
set_option maxRecDepth 100000 in
theorem ferrulelaw12_ClauseOnes.calls (k : Nat) (A0 : Option Addr) (c0 : Nat) (l0 : List Int) (A1 : Option Addr) (c1 : Nat) (l1 : List Bool) (r : Bool) (w : World) (hr0 : Kd.C (Kd.int .i64) w A0 l0.length l0) (hc0 : l0.length ≤ c0) (hr1 : Kd.C Kd.bool w A1 l1.length l1) (hc1 : l1.length ≤ c1) (h : ferrulelaw12_ClauseOnes.f k l0 l1 = some r) :
  Calls Try.prog 10 #[.slice A0 l0.length c0, .slice A1 l1.length c1] w fun e w' => e = .returned (.bool r) ∧ Below w.heap.size w w' := by
 have HR0 := Aside0.mk hr0
 have HC0 := Aside0.mk hc0
 clear hr0 hc0
 have HR1 := Aside0.mk hr1
 have HC1 := Aside0.mk hc1
 clear hr1 hc1
 have HB := Aside0.mk (Below.refl w.heap.size w)
 have H : ((ferrulelaw12_awake.f k).bind fun t101 => (if t101 = true then (if (l0.length : Int) > 60 then (ferrulelaw12_ClauseOnes.j0 k l0 l1 true) else (ferrulelaw12_ClauseOnes.j0 k l0 l1 (decide ((l1.length : Int) > 60)))) else (some false))) = some r := h
 clear h
 replace H := Option.bind_eq_some_iff.mp H
 obtain ⟨t101, A30, H⟩ := H
 replace H : (if t101 = true then (if (l0.length : Int) > 60 then (ferrulelaw12_ClauseOnes.j0 k l0 l1 true) else (ferrulelaw12_ClauseOnes.j0 k l0 l1 (decide ((l1.length : Int) > 60)))) else (some false)) = some r := H
 have A3 := Aside0.mk A30
 clear A30
 by_cases c4 : t101 = true
 ·subst c4
  have H1 : (if (l0.length : Int) > 60 then (ferrulelaw12_ClauseOnes.j0 k l0 l1 true) else (ferrulelaw12_ClauseOnes.j0 k l0 l1 (decide ((l1.length : Int) > 60)))) = some r := by rw [if_pos rfl] at H; exact H
  clear H
  have H := H1
  clear H1
  have HC5 := Aside0.mk H
  clear H
  go_enter Try.func10, Try.ntmps10
  go_upto_region 3 with (first | ((with_reducible refine gate_callee (f := 30) rfl ?_); refine goesL_ (some 8) rfl rfl Try.func30 (by kernel_rfl) rfl #[] rfl bM ?_; (with_reducible refine (ferrulelaw12_awake.calls k  true _ A3.out).mono ?_); rintro e w6 ⟨rfl, hb⟩; refine ⟨_, rfl, ?_⟩; replace HB := aB HB hb; (try clear hb); (try clear hb2); (try clear hk); (try clear hi)))
  (try simp only [Act.put, List.setIfInBounds_toArray, List.set_cons_zero, List.set_cons_succ])
  go_cut [17] (fun v17 wc => ∃ (kq : Nat) (x17_4 : Bool), v17 = .bool x17_4 ∧ Aside0 (ferrulelaw12_ClauseOnes.j0 kq l0 l1 x17_4 = some r) ∧ Aside0 (kq ≤ k) ∧ Aside0 (Below w.heap.size w wc))
  case first =>
   have H := HC5.out
   clear HC5
   by_cases c7 : (l0.length : Int) > 60
   ·rw [if_pos c7] at H
    have c7b0 : decide (60 < (l0.length : Int)) = true := decide_eq_true c7
    have c7b1 : decide (60 < l0.length) = true := decide_eq_true (by omega)
    clear c7
    (first | rw [c7b0] | (simp only [i64_w, i32_w]; rw [c7b0]) | skip)
    have H' := Aside0.mk H
    clear H
    go_wp2
    go_meet
    case rel => exact ⟨_, (true), bS, H', ⟨by first | omega | exact Nat.le_refl _⟩, ⟨bB⟩⟩
   ·rw [if_neg c7] at H
    have c7b0 : decide (60 < (l0.length : Int)) = false := decide_eq_false c7
    have c7b1 : decide (60 < l0.length) = false := decide_eq_false (by omega)
    clear c7
    (first | rw [c7b0] | (simp only [i64_w, i32_w]; rw [c7b0]) | skip)
    have H' := Aside0.mk H
    clear H
    go_wp2
    go_meet
    case rel => exact ⟨_, (decide ((l1.length : Int) > 60)), bS, H', ⟨by first | omega | exact Nat.le_refl _⟩, ⟨bB⟩⟩
  case rest =>
   clear HC5
   try clear c1
   try clear p2
   try clear c3
   try clear c4
   try clear p6
   try clear c7
   try clear c7b0
   try clear c7b1
   obtain ⟨kq, x17_4, rfl, HA, HJ4, HB⟩ := hcut
   cases kq with
   | zero => exact absurd HA.out (by simp [ferrulelaw12_ClauseOnes.j0])
   | succ kj4 =>
    have H := HA.out
    clear HA
    simp only [ferrulelaw12_ClauseOnes.j0] at H
    by_cases c8 : x17_4 = true
    ·subst c8
     have H1 : (some true) = some r := by rw [if_pos rfl] at H; exact H
     clear H
     have H := H1
     clear H1
     obtain rfl := Option.some.inj H
     go_wp2
     go_ret
     exact ⟨by first | rfl | (simp [errW_none, errW_some] <;> rfl) | (simp [*, errW_none, errW_some] <;> rfl), bB⟩
    ·replace c8 := Bool.eq_false_iff.mpr c8
     subst c8
     have H1 : (ferrulelaw12_ClauseOnes.l0 kj4 l0 l1 false true 0) = some r := by rw [if_neg (show ¬ (false = true) by decide)] at H; exact H
     clear H
     have H := H1
     clear H1
     have H' := Aside0.mk H
     clear H
     go_wp2
     go_loopg [5, 6, 7] kj4 (fun kq v5 v6 v7 w' => ∃ (x5_2 : Bool) (x6_2 : Bool) (x7_2 : Int), v5 = .bool x5_2 ∧ v6 = .bool x6_2 ∧ v7 = .int .i64 x7_2 ∧ Aside0 (ferrulelaw12_ClauseOnes.l0 kq l0 l1 x5_2 x6_2 x7_2 = some r) ∧ Aside0 (kq ≤ kj4) ∧ Aside0 (Below w.heap.size w w'))
     case atStart => exact ⟨(false), (true), (0), bS, bS, bS, H', ⟨Nat.le_refl _⟩, ⟨bB⟩⟩
     case round =>
      clear H'
      try clear c1
      try clear p2
      try clear c3
      try clear c4
      try clear p6
      try clear c7
      try clear c7b0
      try clear c7b1
      try clear c8
      try clear p2
      try clear p6
      obtain ⟨x5_2, x6_2, x7_2, rfl, rfl, rfl, HA, HK2, HB⟩ := hrel
      cases gk with
      | zero => exact absurd HA.out (by simp [ferrulelaw12_ClauseOnes.l0])
      | succ k2 =>
       have H := HA.out
       clear HA
       simp only [ferrulelaw12_ClauseOnes.l0] at H
       by_cases c9 : x7_2 < (l0.length : Int)
       ·rw [if_pos c9] at H
        have c9b0 : decide (x7_2 < (l0.length : Int)) = true := decide_eq_true c9
        clear c9
        by_cases c10 : x5_2 = true
        ·subst c10
         have H1 : (if x6_2 = true then (if 0 ≤ x7_2 then (if x7_2 ≤ (wrap64 (x7_2 + 1)) then (if (wrap64 (x7_2 + 1)) ≤ (l0.length : Int) then ((clause_Fails.f ((l0.take ((wrap64 (x7_2 + 1)) : Int).toNat).drop (x7_2 : Int).toNat) l1).bind fun t103 => (ferrulelaw12_ClauseOnes.l0 k2 l0 l1 true t103 (wrap64 (x7_2 + 1)))) else (none)) else (none)) else (none)) else (ferrulelaw12_ClauseOnes.l0 k2 l0 l1 true false (wrap64 (x7_2 + 1)))) = some r := by rw [if_pos rfl] at H; exact H
         clear H
         have H := H1
         clear H1
         by_cases c11 : x6_2 = true
         ·subst c11
          have H1 : (if 0 ≤ x7_2 then (if x7_2 ≤ (wrap64 (x7_2 + 1)) then (if (wrap64 (x7_2 + 1)) ≤ (l0.length : Int) then ((clause_Fails.f ((l0.take ((wrap64 (x7_2 + 1)) : Int).toNat).drop (x7_2 : Int).toNat) l1).bind fun t103 => (ferrulelaw12_ClauseOnes.l0 k2 l0 l1 true t103 (wrap64 (x7_2 + 1)))) else (none)) else (none)) else (none)) = some r := by rw [if_pos rfl] at H; exact H
          clear H
          have H := H1
          clear H1
          by_cases c12 : 0 ≤ x7_2
          ·rw [if_pos c12] at H
           have c12b0 := eq_true c12
           have c12b1 : decide (0 ≤ x7_2) = true := decide_eq_true c12
           clear c12
           by_cases c13 : x7_2 ≤ (wrap64 (x7_2 + 1))
           ·rw [if_pos c13] at H
            have c13b0 := eq_true c13
            have c13b1 : decide (x7_2 ≤ (wrap64 (x7_2 + 1))) = true := decide_eq_true c13
            by_cases c14 : (wrap64 (x7_2 + 1)) ≤ (l0.length : Int)
            ·rw [if_pos c14] at H
             have c14b0 := eq_true c14
             have c14b1 : decide ((wrap64 (x7_2 + 1)) ≤ (l0.length : Int)) = true := decide_eq_true c14
             replace H := Option.bind_eq_some_iff.mp H
             obtain ⟨t103, A150, H⟩ := H
             replace H : (ferrulelaw12_ClauseOnes.l0 k2 l0 l1 true t103 (wrap64 (x7_2 + 1))) = some r := H
             have A15 := Aside0.mk A150
             clear A150
             have H' := Aside0.mk H
             clear H
             obtain ⟨i016, hi016, _, hsz16, _⟩ := info_parts info3
             obtain ⟨A16, hcut16, hA16, hC16⟩ := print_mid_of (P := Try.prog) (Value.int .i64) 0 22 3 .i64 .i64 Try.underlying22 hi016 hsz16 A0 c0 l0 x7_2 (wrap64 (x7_2 + 1)) oD (by first | omega | exact oD) oD HC0.out
             have HR102 := Aside0.mk (Kd.C_of_reads (h1 := fun _ => rfl) (hA16 _ (Kd.reads_of_C HR0.out)))
             have HC102 := Aside0.mk hC16
             clear hA16 hC16 hi016 hsz16
             go_wp2_with (first | (go_at_call 39; (first | rw [← show ((l0.take ((wrap64 (x7_2 + 1)) : Int).toNat).drop (x7_2 : Int).toNat).length = ((wrap64 (x7_2 + 1)).toNat - x7_2.toNat) from (by rw [List.length_drop, List.length_take]; have h_ : ((wrap64 (x7_2 + 1)) : Int) ≤ (l0.length : Int) := oD; omega)] | skip); (with_reducible refine (clause_Fails.calls _ _ ((l0.take ((wrap64 (x7_2 + 1)) : Int).toNat).drop (x7_2 : Int).toNat) _ _ l1 t103 _ ?side1 ?side2 ?side3 ?side4 A15.out).mono ?_); (case side1 => exact sW (Kd.C_below HR102.out HB.out)); (case side2 => exact HC102.out); (case side3 => exact sW (Kd.C_below HR1.out HB.out)); (case side4 => exact HC1.out); rintro e w17 ⟨rfl, hb⟩; replace HB := aB HB hb; (try clear hb); (try clear hb2); (try clear hk); (try clear hi)))
             go_roundg k2
             case measure => have := HJ4.out; have := HK2.out; omega
             case rel => exact ⟨(true), (t103), (wrap64 (x7_2 + 1)), bS, bS, bS, H', ⟨by have := HJ4.out; have := HK2.out; omega⟩, ⟨bB⟩⟩
            ·rw [if_neg c14] at H
             exact absurd H (by simp)
           ·rw [if_neg c13] at H
            exact absurd H (by simp)
          ·rw [if_neg c12] at H
           exact absurd H (by simp)
         ·replace c11 := Bool.eq_false_iff.mpr c11
          subst c11
          have H1 : (ferrulelaw12_ClauseOnes.l0 k2 l0 l1 true false (wrap64 (x7_2 + 1))) = some r := by rw [if_neg (show ¬ (false = true) by decide)] at H; exact H
          clear H
          have H := H1
          clear H1
          have H' := Aside0.mk H
          clear H
          go_wp2
          go_roundg k2
          case measure => have := HJ4.out; have := HK2.out; omega
          case rel => exact ⟨(true), (false), (wrap64 (x7_2 + 1)), bS, bS, bS, H', ⟨by have := HJ4.out; have := HK2.out; omega⟩, ⟨bB⟩⟩
        ·replace c10 := Bool.eq_false_iff.mpr c10
         subst c10
         have H1 : (if 0 ≤ x7_2 then (if x7_2 ≤ (wrap64 (x7_2 + 1)) then (if (wrap64 (x7_2 + 1)) ≤ (l0.length : Int) then ((clause_Holds.f ((l0.take ((wrap64 (x7_2 + 1)) : Int).toNat).drop (x7_2 : Int).toNat) l1).bind fun t105 => (if x6_2 = true then ((clause_Fails.f ((l0.take ((wrap64 (x7_2 + 1)) : Int).toNat).drop (x7_2 : Int).toNat) l1).bind fun t107 => (ferrulelaw12_ClauseOnes.l0 k2 l0 l1 t105 t107 (wrap64 (x7_2 + 1)))) else (ferrulelaw12_ClauseOnes.l0 k2 l0 l1 t105 false (wrap64 (x7_2 + 1))))) else (none)) else (none)) else (none)) = some r := by rw [if_neg (show ¬ (false = true) by decide)] at H; exact H
         clear H
         have H := H1
         clear H1
         by_cases c18 : 0 ≤ x7_2
         ·rw [if_pos c18] at H
          have c18b0 := eq_true c18
          have c18b1 : decide (0 ≤ x7_2) = true := decide_eq_true c18
          clear c18
          by_cases c19 : x7_2 ≤ (wrap64 (x7_2 + 1))
          ·rw [if_pos c19] at H
           have c19b0 := eq_true c19
           have c19b1 : decide (x7_2 ≤ (wrap64 (x7_2 + 1))) = true := decide_eq_true c19
           by_cases c20 : (wrap64 (x7_2 + 1)) ≤ (l0.length : Int)
           ·rw [if_pos c20] at H
            have c20b0 := eq_true c20
            have c20b1 : decide ((wrap64 (x7_2 + 1)) ≤ (l0.length : Int)) = true := decide_eq_true c20
            replace H := Option.bind_eq_some_iff.mp H
            obtain ⟨t105, A210, H⟩ := H
            replace H : (if x6_2 = true then ((clause_Fails.f ((l0.take ((wrap64 (x7_2 + 1)) : Int).toNat).drop (x7_2 : Int).toNat) l1).bind fun t107 => (ferrulelaw12_ClauseOnes.l0 k2 l0 l1 t105 t107 (wrap64 (x7_2 + 1)))) else (ferrulelaw12_ClauseOnes.l0 k2 l0 l1 t105 false (wrap64 (x7_2 + 1)))) = some r := H
            have A21 := Aside0.mk A210
            clear A210
            by_cases c22 : x6_2 = true
            ·subst c22
             have H1 : ((clause_Fails.f ((l0.take ((wrap64 (x7_2 + 1)) : Int).toNat).drop (x7_2 : Int).toNat) l1).bind fun t107 => (ferrulelaw12_ClauseOnes.l0 k2 l0 l1 t105 t107 (wrap64 (x7_2 + 1)))) = some r := by rw [if_pos rfl] at H; exact H
             clear H
             have H := H1
             clear H1
             have c23b0 := eq_true (oD : 0 ≤ x7_2)
             have c24b0 := eq_true (oD : x7_2 ≤ (wrap64 (x7_2 + 1)))
             have c25b0 := eq_true (oD : (wrap64 (x7_2 + 1)) ≤ (l0.length : Int))
             replace H := Option.bind_eq_some_iff.mp H
             obtain ⟨t107, A260, H⟩ := H
             replace H : (ferrulelaw12_ClauseOnes.l0 k2 l0 l1 t105 t107 (wrap64 (x7_2 + 1))) = some r := H
             have A26 := Aside0.mk A260
             clear A260
             have H' := Aside0.mk H
             clear H
             (try clear hcut16)
             obtain ⟨i027, hi027, _, hsz27, _⟩ := info_parts info3
             obtain ⟨A27, hcut27, hA27, hC27⟩ := print_mid_of (P := Try.prog) (Value.int .i64) 0 22 3 .i64 .i64 Try.underlying22 hi027 hsz27 A0 c0 l0 x7_2 (wrap64 (x7_2 + 1)) oD (by first | omega | exact oD) oD HC0.out
             have HR104 := Aside0.mk (Kd.C_of_reads (h1 := fun _ => rfl) (hA27 _ (Kd.reads_of_C HR0.out)))
             have HC104 := Aside0.mk hC27
             clear hA27 hC27 hi027 hsz27
             go_wp2_with (first | (go_at_call 38; (first | rw [← show ((l0.take ((wrap64 (x7_2 + 1)) : Int).toNat).drop (x7_2 : Int).toNat).length = ((wrap64 (x7_2 + 1)).toNat - x7_2.toNat) from (by rw [List.length_drop, List.length_take]; have h_ : ((wrap64 (x7_2 + 1)) : Int) ≤ (l0.length : Int) := oD; omega)] | skip); (with_reducible refine (clause_Holds.calls _ _ ((l0.take ((wrap64 (x7_2 + 1)) : Int).toNat).drop (x7_2 : Int).toNat) _ _ l1 t105 _ ?side1 ?side2 ?side3 ?side4 A21.out).mono ?_); (case side1 => exact sW (Kd.C_below HR104.out HB.out)); (case side2 => exact HC104.out); (case side3 => exact sW (Kd.C_below HR1.out HB.out)); (case side4 => exact HC1.out); rintro e w28 ⟨rfl, hb⟩; replace HB := aB HB hb; (try clear hb); (try clear hb2); (try clear hk); (try clear hi); (try clear hcut27); obtain ⟨i029, hi029, _, hsz29, _⟩ := info_parts info3; obtain ⟨A29, hcut29, hA29, hC29⟩ := print_mid_of (P := Try.prog) (Value.int .i64) 0 22 3 .i64 .i64 Try.underlying22 hi029 hsz29 A0 c0 l0 x7_2 (wrap64 (x7_2 + 1)) oD (by first | omega | exact oD) oD HC0.out; have HR106 := Aside0.mk (Kd.C_of_reads (h1 := fun _ => rfl) (hA29 _ (Kd.reads_of_C HR0.out))); have HC106 := Aside0.mk hC29; clear hA29 hC29 hi029 hsz29) | (go_at_call 39; (first | rw [← show ((l0.take ((wrap64 (x7_2 + 1)) : Int).toNat).drop (x7_2 : Int).toNat).length = ((wrap64 (x7_2 + 1)).toNat - x7_2.toNat) from (by rw [List.length_drop, List.length_take]; have h_ : ((wrap64 (x7_2 + 1)) : Int) ≤ (l0.length : Int) := oD; omega)] | skip); (with_reducible refine (clause_Fails.calls _ _ ((l0.take ((wrap64 (x7_2 + 1)) : Int).toNat).drop (x7_2 : Int).toNat) _ _ l1 t107 _ ?side1 ?side2 ?side3 ?side4 A26.out).mono ?_); (case side1 => exact sW (Kd.C_below HR106.out HB.out)); (case side2 => exact HC106.out); (case side3 => exact sW (Kd.C_below HR1.out HB.out)); (case side4 => exact HC1.out); rintro e w30 ⟨rfl, hb⟩; replace HB := aB HB hb; (try clear hb); (try clear hb2); (try clear hk); (try clear hi)))
             go_roundg k2
             case measure => have := HJ4.out; have := HK2.out; omega
             case rel => exact ⟨(t105), (t107), (wrap64 (x7_2 + 1)), bS, bS, bS, H', ⟨by have := HJ4.out; have := HK2.out; omega⟩, ⟨bB⟩⟩
            ·replace c22 := Bool.eq_false_iff.mpr c22
             subst c22
             have H1 : (ferrulelaw12_ClauseOnes.l0 k2 l0 l1 t105 false (wrap64 (x7_2 + 1))) = some r := by rw [if_neg (show ¬ (false = true) by decide)] at H; exact H
             clear H
             have H := H1
             clear H1
             have H' := Aside0.mk H
             clear H
             (try clear hcut29)
             obtain ⟨i031, hi031, _, hsz31, _⟩ := info_parts info3
             obtain ⟨A31, hcut31, hA31, hC31⟩ := print_mid_of (P := Try.prog) (Value.int .i64) 0 22 3 .i64 .i64 Try.underlying22 hi031 hsz31 A0 c0 l0 x7_2 (wrap64 (x7_2 + 1)) oD (by first | omega | exact oD) oD HC0.out
             have HR104 := Aside0.mk (Kd.C_of_reads (h1 := fun _ => rfl) (hA31 _ (Kd.reads_of_C HR0.out)))
             have HC104 := Aside0.mk hC31
             clear hA31 hC31 hi031 hsz31
             go_wp2_with (first | (go_at_call 38; (first | rw [← show ((l0.take ((wrap64 (x7_2 + 1)) : Int).toNat).drop (x7_2 : Int).toNat).length = ((wrap64 (x7_2 + 1)).toNat - x7_2.toNat) from (by rw [List.length_drop, List.length_take]; have h_ : ((wrap64 (x7_2 + 1)) : Int) ≤ (l0.length : Int) := oD; omega)] | skip); (with_reducible refine (clause_Holds.calls _ _ ((l0.take ((wrap64 (x7_2 + 1)) : Int).toNat).drop (x7_2 : Int).toNat) _ _ l1 t105 _ ?side1 ?side2 ?side3 ?side4 A21.out).mono ?_); (case side1 => exact sW (Kd.C_below HR104.out HB.out)); (case side2 => exact HC104.out); (case side3 => exact sW (Kd.C_below HR1.out HB.out)); (case side4 => exact HC1.out); rintro e w32 ⟨rfl, hb⟩; replace HB := aB HB hb; (try clear hb); (try clear hb2); (try clear hk); (try clear hi)))
             go_roundg k2
             case measure => have := HJ4.out; have := HK2.out; omega
             case rel => exact ⟨(t105), (false), (wrap64 (x7_2 + 1)), bS, bS, bS, H', ⟨by have := HJ4.out; have := HK2.out; omega⟩, ⟨bB⟩⟩
           ·rw [if_neg c20] at H
            exact absurd H (by simp)
          ·rw [if_neg c19] at H
           exact absurd H (by simp)
         ·rw [if_neg c18] at H
          exact absurd H (by simp)
       ·rw [if_neg c9] at H
        have c9b0 : decide (x7_2 < (l0.length : Int)) = false := decide_eq_false c9
        clear c9
        replace H := Option.bind_eq_some_iff.mp H
        obtain ⟨t108, A330, H⟩ := H
        replace H : (if (t108 == x5_2) = true then ((clause_Fails.f l0 l1).bind fun t109 => (some (t109 == x6_2))) else (some false)) = some r := H
        have A33 := Aside0.mk A330
        clear A330
        by_cases c34 : (t108 == x5_2) = true
        ·rw [if_pos c34] at H
         have c34b0 : (t108 == x5_2) = true := c34
         (try (have c34b1 : decide (t108 = x5_2) = true := by simpa using c34))
         (try (have c34b2 : (t108 == x5_2) = true := by simpa using c34))
         clear c34
         replace H := Option.bind_eq_some_iff.mp H
         obtain ⟨t109, A350, H⟩ := H
         replace H : (some (t109 == x6_2)) = some r := H
         have A35 := Aside0.mk A350
         clear A350
         obtain rfl := Option.some.inj H
         go_wp2_with (first | ((with_reducible refine gate_callee (f := 38) rfl ?_); refine goesL_ (some 46) rfl rfl Try.func38 (by kernel_rfl) rfl #[.slice A0 l0.length c0, .slice A1 l1.length c1] rfl bM ?_; (with_reducible refine (clause_Holds.calls _ _ l0 _ _ l1 t108 _ ?side1 ?side2 ?side3 ?side4 A33.out).mono ?_); (case side1 => exact sW (Kd.C_below HR0.out HB.out)); (case side2 => exact HC0.out); (case side3 => exact sW (Kd.C_below HR1.out HB.out)); (case side4 => exact HC1.out); rintro e w36 ⟨rfl, hb⟩; refine ⟨_, rfl, ?_⟩; replace HB := aB HB hb; (try clear hb); (try clear hb2); (try clear hk); (try clear hi)) | (go_at_call 39; (with_reducible refine (clause_Fails.calls _ _ l0 _ _ l1 t109 _ ?side1 ?side2 ?side3 ?side4 A35.out).mono ?_); (case side1 => exact sW (Kd.C_below HR0.out HB.out)); (case side2 => exact HC0.out); (case side3 => exact sW (Kd.C_below HR1.out HB.out)); (case side4 => exact HC1.out); rintro e w37 ⟨rfl, hb⟩; replace HB := aB HB hb; (try clear hb); (try clear hb2); (try clear hk); (try clear hi)))
         go_ret
         exact ⟨by first | rfl | (simp [errW_none, errW_some] <;> rfl) | (simp [*, errW_none, errW_some] <;> rfl), bB⟩
        ·rw [if_neg c34] at H
         have c34b0 : (t108 == x5_2) = false := by simpa using c34
         (try (have c34b1 : decide (t108 = x5_2) = false := by simpa using c34))
         (try (have c34b2 : (t108 == x5_2) = false := by simpa using c34))
         (try (have c34b3 : ¬ (t108 = x5_2) := by simpa using c34))
         clear c34
         obtain rfl := Option.some.inj H
         go_wp2_with (first | ((with_reducible refine gate_callee (f := 38) rfl ?_); refine goesL_ (some 46) rfl rfl Try.func38 (by kernel_rfl) rfl #[.slice A0 l0.length c0, .slice A1 l1.length c1] rfl bM ?_; (with_reducible refine (clause_Holds.calls _ _ l0 _ _ l1 t108 _ ?side1 ?side2 ?side3 ?side4 A33.out).mono ?_); (case side1 => exact sW (Kd.C_below HR0.out HB.out)); (case side2 => exact HC0.out); (case side3 => exact sW (Kd.C_below HR1.out HB.out)); (case side4 => exact HC1.out); rintro e w38 ⟨rfl, hb⟩; refine ⟨_, rfl, ?_⟩; replace HB := aB HB hb; (try clear hb); (try clear hb2); (try clear hk); (try clear hi)))
         go_ret
         exact ⟨by first | rfl | (simp [errW_none, errW_some] <;> rfl) | (simp [*, errW_none, errW_some] <;> rfl), bB⟩
 ·replace c4 := Bool.eq_false_iff.mpr c4
  subst c4
  have H1 : (some false) = some r := by rw [if_neg (show ¬ (false = true) by decide)] at H; exact H
  clear H
  have H := H1
  clear H1
  obtain rfl := Option.some.inj H
  go_enter Try.func10, Try.ntmps10
  go_wp2_with (first | ((with_reducible refine gate_callee (f := 30) rfl ?_); refine goesL_ (some 8) rfl rfl Try.func30 (by kernel_rfl) rfl #[] rfl bM ?_; (with_reducible refine (ferrulelaw12_awake.calls k  false _ A3.out).mono ?_); rintro e w39 ⟨rfl, hb⟩; refine ⟨_, rfl, ?_⟩; replace HB := aB HB hb; (try clear hb); (try clear hb2); (try clear hk); (try clear hi)))
  go_ret
  exact ⟨by first | rfl | (simp [errW_none, errW_some] <;> rfl) | (simp [*, errW_none, errW_some] <;> rfl), bB⟩

def ferrulelaw12_ClauseOnes.Pure : Prop := ∀ (l0 : List Int) (l1 : List Bool), l0.length ≤ maxLen → (∀ x ∈ l0, (Lit.int .i64 x).wf = true) → (fun l : (List Bool) => l.length ≤ maxLen ∧ ∀ x ∈ l, (fun _ : Bool => True) x) l1 → ∃ k, ferrulelaw12_ClauseOnes.f k l0 l1 = some true

end Go.Proofs.Ytohgjbkiemnfnaa.X
