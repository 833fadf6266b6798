-- Written by a program of this session (wip/xp), out of the translation. Not trusted: Lean checks it.
import Derived.Test.YtildmfegfkiknaaDoorX0
import Derived.Test.YtildmfegfkiknaaDoorXn18
-- shrunk
namespace Go.Proofs.YtildmfegfkiknaaDoor.X
open Go.RowKit Go.Proofs.YtildmfegfkiknaaDoorW.PrintWords Go.Proofs.YtildmfegfkiknaaDoorW.PrintLast Go.Proofs.YtildmfegfkiknaaDoorW.PrintMore
attribute [local go_sem] Lab.str_gtr Lab.str_leq Lab.str_geq max2_int min2_int max_two min_two max_three min_three max_four min_four   -- for this text's walks alone
set_option linter.unusedVariables false
set_option linter.unusedSimpArgs false

/-! ### slices_CompareFunc_string_string_string_string__of18: function 143 -/
def slices_CompareFunc_string_string_string_string__of18.l0 : Nat → List ByteArray → List ByteArray → List ByteArray → Int → Int → Option (Int)
 | 0, _, _, _, _, _ => none
 | k + 1, x0, x1, x11, x12, x13 => if x13 < x12 then (if 0 ≤ x13 then (if x13 < (x11.length : Int) then (if x13 ≥ (x1.length : Int) then (some 1) else (if x13 < (x1.length : Int) then ((ident_Compare.f k (rdOf ByteArray.empty x11 x13) (rdOf ByteArray.empty x1 x13)).bind fun t103 => (if t103 = 0 then (slices_CompareFunc_string_string_string_string__of18.l0 k x0 x1 x11 x12 (wrap64 (x13 + 1))) else (some t103))) else (none))) else (none)) else (none)) else (if (x0.length : Int) < (x1.length : Int) then (some (-1)) else (some 0))
def slices_CompareFunc_string_string_string_string__of18.f (k : Nat) (l0 : List ByteArray) (l1 : List ByteArray)  : Option (Int) := slices_CompareFunc_string_string_string_string__of18.l0 k l0 l1 l0 (l0.length : Int) 0
theorem slices_CompareFunc_string_string_string_string__of18.mono_l : ∀ k, (∀ y0 y1 y2 y3 y4, LeO (slices_CompareFunc_string_string_string_string__of18.l0 k y0 y1 y2 y3 y4) (slices_CompareFunc_string_string_string_string__of18.l0 (k + 1) y0 y1 y2 y3 y4))
 | 0 => fun _ _ _ _ _ r h => by simp [slices_CompareFunc_string_string_string_string__of18.l0] at h
 | k + 1 => by
  have ih0 := slices_CompareFunc_string_string_string_string__of18.mono_l k
  ·intro y0 y1 y2 y3 y4
   unfold slices_CompareFunc_string_string_string_string__of18.l0
   repeat' first
   | (with_reducible exact ih0 _ _ _ _ _)
   | (with_reducible exact ident_Compare.mono _ _ _)
   | (with_reducible exact LeO.refl _)
   | (with_reducible exact LeO.none _)
   | (with_reducible refine LeO.ite ?_ ?_)
   | (with_reducible refine LeO.bind ?_ (fun _ => ?_))
   | exact ih0 _ _ _ _ _
   | exact ident_Compare.mono _ _ _
   | exact LeO.none _
   | refine LeO.ite ?_ ?_
   | refine LeO.bind ?_ (fun _ => ?_)
theorem slices_CompareFunc_string_string_string_string__of18.mono : ∀ a0 a1 k, LeO (slices_CompareFunc_string_string_string_string__of18.f k a0 a1) (slices_CompareFunc_string_string_string_string__of18.f (k + 1) a0 a1) := by
 intro a0 a1 k
 have ih0 := slices_CompareFunc_string_string_string_string__of18.mono_l k
 unfold slices_CompareFunc_string_string_string_string__of18.f
 repeat' first
   | (with_reducible exact ih0 _ _ _ _ _)
   | (with_reducible exact ident_Compare.mono _ _ _)
   | (with_reducible exact LeO.refl _)
   | (with_reducible exact LeO.none _)
   | (with_reducible refine LeO.ite ?_ ?_)
   | (with_reducible refine LeO.bind ?_ (fun _ => ?_))
   | exact ih0 _ _ _ _ _
   | exact ident_Compare.mono _ _ _
   | exact LeO.none _
   | refine LeO.ite ?_ ?_
   | refine LeO.bind ?_ (fun _ => ?_)
set_option maxHeartbeats 8000000 in
set_option maxRecDepth 100000 in
theorem slices_CompareFunc_string_string_string_string__of18.calls (k : Nat) (A0 : Option Addr) (c0 : Nat) (l0 : List ByteArray) (A1 : Option Addr) (c1 : Nat) (l1 : List ByteArray)  (r : Int) (w : World) (hr0 : Kd.C Kd.string w A0 l0.length l0) (hc0 : l0.length ≤ c0) (hr1 : Kd.C Kd.string w A1 l1.length l1) (hc1 : l1.length ≤ c1) (h : slices_CompareFunc_string_string_string_string__of18.f k l0 l1 = some r) :
  Calls Tryd.prog 78 #[.slice A0 l0.length c0, .slice A1 l1.length c1, .func (.func 18) #[] #[]] w fun e w' => e = .returned (.int .i64 r) ∧ Below w.heap.size w w' := by
 have HR0 := Aside0.mk hr0
 have HC0 := Aside0.mk hc0
 clear hr0 hc0
 have HR1 := Aside0.mk hr1
 have HC1 := Aside0.mk hc1
 clear hr1 hc1
 have HB := Aside0.mk (Below.refl w.heap.size w)
 have H : (slices_CompareFunc_string_string_string_string__of18.l0 k l0 l1 l0 (l0.length : Int) 0) = some r := h
 clear h
 have H' := Aside0.mk H
 clear H
 go_enter Tryd.func78, Tryd.ntmps78
 go_wp2
 go_loopg [13] k (fun kq v13 w' => ∃ (x13_1 : Int), v13 = .int .i64 x13_1 ∧ Aside0 (slices_CompareFunc_string_string_string_string__of18.l0 kq l0 l1 l0 (l0.length : Int) x13_1 = some r) ∧ Aside0 (kq ≤ k) ∧ Aside0 (Below w.heap.size w w'))
 case atStart => exact ⟨(0), bS, H', ⟨Nat.le_refl _⟩, ⟨bB⟩⟩
 case round =>
  clear H'
  try clear c1
  try clear p2
  obtain ⟨x13_1, rfl, HA, HK1, HB⟩ := hrel
  cases gk with
  | zero => exact absurd HA.out (by simp [slices_CompareFunc_string_string_string_string__of18.l0])
  | succ k1 =>
   have H := HA.out
   clear HA
   simp only [slices_CompareFunc_string_string_string_string__of18.l0] at H
   by_cases c4 : x13_1 < (l0.length : Int)
   ·rw [if_pos c4] at H
    have c4b0 : decide (x13_1 < (l0.length : Int)) = true := decide_eq_true c4
    clear c4
    by_cases c5 : 0 ≤ x13_1
    ·rw [if_pos c5] at H
     have c5b0 : decide (0 ≤ x13_1) = true := decide_eq_true c5
     clear c5
     by_cases c6 : x13_1 < (l0.length : Int)
     ·rw [if_pos c6] at H
      have c6b0 : decide (x13_1 < (l0.length : Int)) = true := decide_eq_true c6
      clear c6
      by_cases c7 : x13_1 ≥ (l1.length : Int)
      ·rw [if_pos c7] at H
       have c7b0 : decide ((l1.length : Int) ≤ x13_1) = true := decide_eq_true c7
       clear c7
       obtain rfl := Option.some.inj H
       have p101 : 0 ≤ (x13_1 : Int) := oD
       have q101 : x13_1 < (l0.length : Int) := oD
       obtain ⟨ad101, e101, hx101_0⟩ := Kd.at_string HR0.out x13_1 p101 q101
       cases e101
       replace hx101_0 := (HB.out.cell (World.block_lt_of_cell? w _ hx101_0)).trans hx101_0
       replace p101 := eq_true p101
       replace q101 := eq_true q101
       go_wp2
       go_ret
       exact ⟨by first | rfl | (simp [errW_none, errW_some] <;> rfl) | (simp [*, errW_none, errW_some] <;> rfl), bB⟩
      ·rw [if_neg c7] at H
       have c7b0 : decide ((l1.length : Int) ≤ x13_1) = false := decide_eq_false c7
       clear c7
       by_cases c8 : x13_1 < (l1.length : Int)
       ·rw [if_pos c8] at H
        have c8b0 : decide (x13_1 < (l1.length : Int)) = true := decide_eq_true c8
        clear c8
        replace H := Option.bind_eq_some_iff.mp H
        obtain ⟨t103, A90, H⟩ := H
        replace H : (if t103 = 0 then (slices_CompareFunc_string_string_string_string__of18.l0 k1 l0 l1 l0 (l0.length : Int) (wrap64 (x13_1 + 1))) else (some t103)) = some r := H
        have A9 := Aside0.mk A90
        clear A90
        by_cases c10 : t103 = 0
        ·rw [if_pos c10] at H
         have c10b0 : (t103 == 0) = true := beq_iff_eq.mpr c10
         have c10b1 : (t103 != 0) = false := bne_eq_false_iff_eq.mpr c10
         clear c10
         have H' := Aside0.mk H
         clear H
         have p101 : 0 ≤ (x13_1 : Int) := oD
         have q101 : x13_1 < (l0.length : Int) := oD
         obtain ⟨ad101, e101, hx101_0⟩ := Kd.at_string HR0.out x13_1 p101 q101
         cases e101
         replace hx101_0 := (HB.out.cell (World.block_lt_of_cell? w _ hx101_0)).trans hx101_0
         replace p101 := eq_true p101
         replace q101 := eq_true q101
         have p102 : 0 ≤ (x13_1 : Int) := oD
         have q102 : x13_1 < (l1.length : Int) := oD
         obtain ⟨ad102, e102, hx102_0⟩ := Kd.at_string HR1.out x13_1 p102 q102
         cases e102
         replace hx102_0 := (HB.out.cell (World.block_lt_of_cell? w _ hx102_0)).trans hx102_0
         replace p102 := eq_true p102
         replace q102 := eq_true q102
         go_wp2_with (first | (go_at_call 18; (with_reducible refine (ident_Compare.calls k1 (rdOf ByteArray.empty l0 x13_1) (rdOf ByteArray.empty l1 x13_1) t103 _ A9.out).mono ?_); rintro e w11 ⟨rfl, hb⟩; replace HB := aB HB hb; (try clear hb); (try clear hb2); (try clear hk); (try clear hi)))
         go_roundg k1
         case measure => have := HK1.out; omega
         case rel => exact ⟨(wrap64 (x13_1 + 1)), bS, H', ⟨by have := HK1.out; omega⟩, ⟨bB⟩⟩
        ·rw [if_neg c10] at H
         have c10b0 : (t103 == 0) = false := beq_eq_false_iff_ne.mpr c10
         have c10b1 : (t103 != 0) = true := bne_iff_ne.mpr c10
         obtain rfl := Option.some.inj H
         have p101 : 0 ≤ (x13_1 : Int) := oD
         have q101 : x13_1 < (l0.length : Int) := oD
         obtain ⟨ad101, e101, hx101_0⟩ := Kd.at_string HR0.out x13_1 p101 q101
         cases e101
         replace hx101_0 := (HB.out.cell (World.block_lt_of_cell? w _ hx101_0)).trans hx101_0
         replace p101 := eq_true p101
         replace q101 := eq_true q101
         have p102 : 0 ≤ (x13_1 : Int) := oD
         have q102 : x13_1 < (l1.length : Int) := oD
         obtain ⟨ad102, e102, hx102_0⟩ := Kd.at_string HR1.out x13_1 p102 q102
         cases e102
         replace hx102_0 := (HB.out.cell (World.block_lt_of_cell? w _ hx102_0)).trans hx102_0
         replace p102 := eq_true p102
         replace q102 := eq_true q102
         go_wp2_with (first | (go_at_call 18; (with_reducible refine (ident_Compare.calls k1 (rdOf ByteArray.empty l0 x13_1) (rdOf ByteArray.empty l1 x13_1) t103 _ A9.out).mono ?_); rintro e w12 ⟨rfl, hb⟩; replace HB := aB HB hb; (try clear hb); (try clear hb2); (try clear hk); (try clear hi)))
         go_ret
         exact ⟨by first | rfl | (simp [errW_none, errW_some] <;> rfl) | (simp [*, errW_none, errW_some] <;> rfl), bB⟩
       ·rw [if_neg c8] at H
        exact absurd H (by simp)
     ·rw [if_neg c6] at H
      exact absurd H (by simp)
    ·rw [if_neg c5] at H
     exact absurd H (by simp)
   ·rw [if_neg c4] at H
    have c4b0 : decide (x13_1 < (l0.length : Int)) = false := decide_eq_false c4
    clear c4
    by_cases c13 : (l0.length : Int) < (l1.length : Int)
    ·rw [if_pos c13] at H
     have c13b0 : decide ((l0.length : Int) < (l1.length : Int)) = true := decide_eq_true c13
     have c13b1 : decide (l0.length < l1.length) = true := decide_eq_true (Int.ofNat_lt.mp c13)
     clear c13
     obtain rfl := Option.some.inj H
     go_wp2
     go_ret
     exact ⟨by first | rfl | (simp [errW_none, errW_some] <;> rfl) | (simp [*, errW_none, errW_some] <;> rfl), bB⟩
    ·rw [if_neg c13] at H
     have c13b0 : decide ((l0.length : Int) < (l1.length : Int)) = false := decide_eq_false c13
     have c13b1 : decide (l0.length < l1.length) = false := decide_eq_false (fun h => c13 (Int.ofNat_lt.mpr h))
     clear c13
     obtain rfl := Option.some.inj H
     go_wp2
     go_ret
     exact ⟨by first | rfl | (simp [errW_none, errW_some] <;> rfl) | (simp [*, errW_none, errW_some] <;> rfl), bB⟩

end Go.Proofs.YtildmfegfkiknaaDoor.X
