-- Written by a program of this session (wip/xp), out of the translation. Not trusted: Lean checks it.
import Derived.Test.YtildmfegfkiknaaDoorX0
import Derived.Test.YtildmfegfkiknaaDoorXm
import Derived.Test.YtildmfegfkiknaaDoorXn48
-- shrunk
namespace Go.Proofs.YtildmfegfkiknaaDoor.X
open Go.RowKit Go.Proofs.YtildmfegfkiknaaDoorW.PrintWords Go.Proofs.YtildmfegfkiknaaDoorW.PrintLast Go.Proofs.YtildmfegfkiknaaDoorW.PrintMore
attribute [local go_sem] Lab.str_gtr Lab.str_leq Lab.str_geq max2_int min2_int max_two min_two max_three min_three max_four min_four   -- for this text's walks alone
set_option linter.unusedVariables false
set_option linter.unusedSimpArgs false

/-! ### ident_Good: function 40 -/
mutual
def ident_Good.l0 : Nat → Bool → List ByteArray → Int → Int → Option (Bool)
 | 0, _, _, _, _ => none
 | k + 1, x1, x8, x9, x10 => if x10 < x9 then (if 0 ≤ x10 then (if x10 < (x8.length : Int) then ((ident_check.f k (rdOf ByteArray.empty x8 x10) x10 x1).bind fun t102 => (if t102 = 0 then (ident_Good.l1 k x1 (rdOf ByteArray.empty x8 x10) x8 x9 x10 ((rdOf ByteArray.empty x8 x10).size : Int) 0) else (some false))) else (none)) else (none)) else (some true)
def ident_Good.l1 : Nat → Bool → ByteArray → List ByteArray → Int → Int → Int → Int → Option (Bool)
 | 0, _, _, _, _, _, _, _ => none
 | k + 1, x1, x6, x8, x9, x10, x21, x22 => if x22 < x21 then (if 0 ≤ x22 then (if x22 < (x6.size : Int) then ((ident_isByte.f (bt x6 x22)).bind fun t103 => (if t103 = true then (ident_Good.l1 k x1 x6 x8 x9 x10 x21 (wrap64 (x22 + 1))) else (some false))) else (none)) else (none)) else (ident_Good.l0 k x1 x8 x9 (wrap64 (x10 + 1)))
end
def ident_Good.f (k : Nat) (l0 : List ByteArray) (a1 : Bool) : Option (Bool) := ident_Good.l0 k a1 l0 (l0.length : Int) 0
theorem ident_Good.mono_l : ∀ k, (∀ y0 y1 y2 y3, LeO (ident_Good.l0 k y0 y1 y2 y3) (ident_Good.l0 (k + 1) y0 y1 y2 y3)) ∧ (∀ y0 y1 y2 y3 y4 y5 y6, LeO (ident_Good.l1 k y0 y1 y2 y3 y4 y5 y6) (ident_Good.l1 (k + 1) y0 y1 y2 y3 y4 y5 y6))
 | 0 => ⟨fun _ _ _ _ r h => by simp [ident_Good.l0] at h, fun _ _ _ _ _ _ _ r h => by simp [ident_Good.l1] at h⟩
 | k + 1 => by
  obtain ⟨ih0, ih1⟩ := ident_Good.mono_l k
  refine ⟨?_, ?_⟩
  ·intro y0 y1 y2 y3
   unfold ident_Good.l0
   repeat' first
   | (with_reducible exact ih0 _ _ _ _)
   | (with_reducible exact ih1 _ _ _ _ _ _ _)
   | (with_reducible exact ident_check.mono _ _ _ _)
   | (with_reducible exact LeO.refl _)
   | (with_reducible exact LeO.none _)
   | (with_reducible refine LeO.ite ?_ ?_)
   | (with_reducible refine LeO.bind ?_ (fun _ => ?_))
   | exact ih0 _ _ _ _
   | exact ih1 _ _ _ _ _ _ _
   | exact ident_check.mono _ _ _ _
   | exact LeO.none _
   | refine LeO.ite ?_ ?_
   | refine LeO.bind ?_ (fun _ => ?_)
  ·intro y0 y1 y2 y3 y4 y5 y6
   unfold ident_Good.l1
   repeat' first
   | (with_reducible exact ih0 _ _ _ _)
   | (with_reducible exact ih1 _ _ _ _ _ _ _)
   | (with_reducible exact ident_check.mono _ _ _ _)
   | (with_reducible exact LeO.refl _)
   | (with_reducible exact LeO.none _)
   | (with_reducible refine LeO.ite ?_ ?_)
   | (with_reducible refine LeO.bind ?_ (fun _ => ?_))
   | exact ih0 _ _ _ _
   | exact ih1 _ _ _ _ _ _ _
   | exact ident_check.mono _ _ _ _
   | exact LeO.none _
   | refine LeO.ite ?_ ?_
   | refine LeO.bind ?_ (fun _ => ?_)
theorem ident_Good.mono : ∀ a0 a1 k, LeO (ident_Good.f k a0 a1) (ident_Good.f (k + 1) a0 a1) := by
 intro a0 a1 k
 obtain ⟨ih0, ih1⟩ := ident_Good.mono_l k
 unfold ident_Good.f
 repeat' first
   | (with_reducible exact ih0 _ _ _ _)
   | (with_reducible exact ih1 _ _ _ _ _ _ _)
   | (with_reducible exact ident_check.mono _ _ _ _)
   | (with_reducible exact LeO.refl _)
   | (with_reducible exact LeO.none _)
   | (with_reducible refine LeO.ite ?_ ?_)
   | (with_reducible refine LeO.bind ?_ (fun _ => ?_))
   | exact ih0 _ _ _ _
   | exact ih1 _ _ _ _ _ _ _
   | exact ident_check.mono _ _ _ _
   | exact LeO.none _
   | refine LeO.ite ?_ ?_
   | refine LeO.bind ?_ (fun _ => ?_)
set_option maxHeartbeats 8000000 in
set_option maxRecDepth 100000 in
theorem ident_Good.calls (k : Nat) (A0 : Option Addr) (c0 : Nat) (l0 : List ByteArray) (a1 : Bool) (r : Bool) (w : World) (hr0 : Kd.C Kd.string w A0 l0.length l0) (hc0 : l0.length ≤ c0) (h : ident_Good.f k l0 a1 = some r) :
  Calls Tryd.prog 40 #[.slice A0 l0.length c0, .bool a1] w fun e w' => e = .returned (.bool r) ∧ Below w.heap.size w w' := by
 have HR0 := Aside0.mk hr0
 have HC0 := Aside0.mk hc0
 clear hr0 hc0
 have HB := Aside0.mk (Below.refl w.heap.size w)
 have H : (ident_Good.l0 k a1 l0 (l0.length : Int) 0) = some r := h
 clear h
 have H' := Aside0.mk H
 clear H
 go_enter Tryd.func40, Tryd.ntmps40
 go_wp2
 go_loopg [10] k (fun kq v10 w' => ∃ (x10_1 : Int), v10 = .int .i64 x10_1 ∧ Aside0 (ident_Good.l0 kq a1 l0 (l0.length : Int) x10_1 = some r) ∧ Aside0 (kq ≤ k) ∧ Aside0 (Below w.heap.size w w'))
 case atStart => exact ⟨(0), bS, H', ⟨Nat.le_refl _⟩, ⟨bB⟩⟩
 case round =>
  clear H'
  try clear p2
  obtain ⟨x10_1, rfl, HA, HK1, HB⟩ := hrel
  cases gk with
  | zero => exact absurd HA.out (by simp [ident_Good.l0])
  | succ k1 =>
   have H := HA.out
   clear HA
   simp only [ident_Good.l0] at H
   by_cases c3 : x10_1 < (l0.length : Int)
   ·rw [if_pos c3] at H
    have c3b0 : decide (x10_1 < (l0.length : Int)) = true := decide_eq_true c3
    clear c3
    by_cases c4 : 0 ≤ x10_1
    ·rw [if_pos c4] at H
     have c4b0 : decide (0 ≤ x10_1) = true := decide_eq_true c4
     clear c4
     by_cases c5 : x10_1 < (l0.length : Int)
     ·rw [if_pos c5] at H
      have c5b0 : decide (x10_1 < (l0.length : Int)) = true := decide_eq_true c5
      clear c5
      replace H := Option.bind_eq_some_iff.mp H
      obtain ⟨t102, A60, H⟩ := H
      replace H : (if t102 = 0 then (ident_Good.l1 k1 a1 (rdOf ByteArray.empty l0 x10_1) l0 (l0.length : Int) x10_1 ((rdOf ByteArray.empty l0 x10_1).size : Int) 0) else (some false)) = some r := H
      have A6 := Aside0.mk A60
      clear A60
      by_cases c7 : t102 = 0
      ·rw [if_pos c7] at H
       have c7b0 : (t102 == 0) = true := beq_iff_eq.mpr c7
       have c7b1 : (t102 != 0) = false := bne_eq_false_iff_eq.mpr c7
       clear c7
       have H' := Aside0.mk H
       clear H
       have p101 : 0 ≤ (x10_1 : Int) := oD
       have q101 : x10_1 < (l0.length : Int) := oD
       obtain ⟨ad101, e101, hx101_0⟩ := Kd.at_string HR0.out x10_1 p101 q101
       cases e101
       replace hx101_0 := (HB.out.cell (World.block_lt_of_cell? w _ hx101_0)).trans hx101_0
       replace p101 := eq_true p101
       replace q101 := eq_true q101
       go_wp2_with (first | ((with_reducible refine gate_callee (f := 48) rfl ?_); refine goesL_ (some 18) rfl rfl Tryd.func48 (by kernel_rfl) rfl #[.string (rdOf ByteArray.empty l0 x10_1), .int .i64 x10_1, .bool a1] rfl bM ?_; (with_reducible refine (ident_check.calls k1 (rdOf ByteArray.empty l0 x10_1) x10_1 a1 t102 _ A6.out).mono ?_); rintro e w8 ⟨rfl, hb⟩; refine ⟨_, rfl, ?_⟩; replace HB := aB HB hb; (try clear hb); (try clear hb2); (try clear hk); (try clear hi)))
       go_loopg [22] k1 (fun kq v22 w' => ∃ (x22_2 : Int), v22 = .int .i64 x22_2 ∧ Aside0 (ident_Good.l1 kq a1 (rdOf ByteArray.empty l0 x10_1) l0 (l0.length : Int) x10_1 ((rdOf ByteArray.empty l0 x10_1).size : Int) x22_2 = some r) ∧ Aside0 (kq ≤ k1) ∧ Aside0 (Below w.heap.size w w'))
       case atStart => exact ⟨(0), bS, H', ⟨Nat.le_refl _⟩, ⟨bB⟩⟩
       case round =>
        clear H'
        try clear p1
        try clear q1
        try clear hx1
        try clear p2
        try clear c3
        try clear c3b0
        try clear c4
        try clear c4b0
        try clear c5
        try clear c5b0
        try clear p6
        try clear c7
        try clear c7b0
        try clear c7b1
        try clear hx101_0
        try clear p101
        try clear p2
        try clear q101
        obtain ⟨x22_2, rfl, HA, HK2, HB⟩ := hrel
        cases gk with
        | zero => exact absurd HA.out (by simp [ident_Good.l1])
        | succ k2 =>
         have H := HA.out
         clear HA
         simp only [ident_Good.l1] at H
         by_cases c9 : x22_2 < ((rdOf ByteArray.empty l0 x10_1).size : Int)
         ·rw [if_pos c9] at H
          have c9b0 : decide (x22_2 < ((rdOf ByteArray.empty l0 x10_1).size : Int)) = true := decide_eq_true c9
          clear c9
          by_cases c10 : 0 ≤ x22_2
          ·rw [if_pos c10] at H
           have c10b0 : decide (0 ≤ x22_2) = true := decide_eq_true c10
           clear c10
           by_cases c11 : x22_2 < ((rdOf ByteArray.empty l0 x10_1).size : Int)
           ·rw [if_pos c11] at H
            have c11b0 : decide (x22_2 < ((rdOf ByteArray.empty l0 x10_1).size : Int)) = true := decide_eq_true c11
            clear c11
            replace H := Option.bind_eq_some_iff.mp H
            obtain ⟨t103, A130, H⟩ := H
            replace H : (if t103 = true then (ident_Good.l1 k2 a1 (rdOf ByteArray.empty l0 x10_1) l0 (l0.length : Int) x10_1 ((rdOf ByteArray.empty l0 x10_1).size : Int) (wrap64 (x22_2 + 1))) else (some false)) = some r := H
            have A13 := Aside0.mk A130
            clear A130
            by_cases c14 : t103 = true
            ·subst c14
             have H1 : (ident_Good.l1 k2 a1 (rdOf ByteArray.empty l0 x10_1) l0 (l0.length : Int) x10_1 ((rdOf ByteArray.empty l0 x10_1).size : Int) (wrap64 (x22_2 + 1))) = some r := by rw [if_pos rfl] at H; exact H
             clear H
             have H := H1
             clear H1
             have H' := Aside0.mk H
             clear H
             have p12 : 0 ≤ (x22_2 : Int) := oD
             have q12 : x22_2 < ((rdOf ByteArray.empty l0 x10_1).size : Int) := oD
             have hx12 := bt_at (rdOf ByteArray.empty l0 x10_1) x22_2
             replace p12 := eq_true p12
             replace q12 := eq_true q12
             go_wp2_with (first | ((with_reducible refine gate_callee (f := 47) rfl ?_); refine goesL_ (some 28) rfl rfl Tryd.func47 (by kernel_rfl) rfl #[.int .u8 (bt (rdOf ByteArray.empty l0 x10_1) x22_2)] rfl bM ?_; (with_reducible refine (ident_isByte.calls (bt (rdOf ByteArray.empty l0 x10_1) x22_2) true _ A13.out).mono ?_); rintro e w' ⟨rfl, ⟨nd, rfl⟩⟩; refine ⟨_, rfl, ?_⟩))
             go_roundg k2
             case measure => have := HK1.out; have := HK2.out; omega
             case rel => exact ⟨(wrap64 (x22_2 + 1)), bS, H', ⟨by have := HK1.out; have := HK2.out; omega⟩, ⟨bB⟩⟩
            ·replace c14 := Bool.eq_false_iff.mpr c14
             subst c14
             have H1 : (some false) = some r := by rw [if_neg (show ¬ (false = true) by decide)] at H; exact H
             clear H
             have H := H1
             clear H1
             obtain rfl := Option.some.inj H
             have p12 : 0 ≤ (x22_2 : Int) := oD
             have q12 : x22_2 < ((rdOf ByteArray.empty l0 x10_1).size : Int) := oD
             have hx12 := bt_at (rdOf ByteArray.empty l0 x10_1) x22_2
             replace p12 := eq_true p12
             replace q12 := eq_true q12
             go_wp2_with (first | ((with_reducible refine gate_callee (f := 47) rfl ?_); refine goesL_ (some 28) rfl rfl Tryd.func47 (by kernel_rfl) rfl #[.int .u8 (bt (rdOf ByteArray.empty l0 x10_1) x22_2)] rfl bM ?_; (with_reducible refine (ident_isByte.calls (bt (rdOf ByteArray.empty l0 x10_1) x22_2) false _ A13.out).mono ?_); rintro e w' ⟨rfl, ⟨nd, rfl⟩⟩; refine ⟨_, rfl, ?_⟩))
             go_ret
             exact ⟨by first | rfl | (simp [errW_none, errW_some] <;> rfl) | (simp [*, errW_none, errW_some] <;> rfl), bB⟩
           ·rw [if_neg c11] at H
            exact absurd H (by simp)
          ·rw [if_neg c10] at H
           exact absurd H (by simp)
         ·rw [if_neg c9] at H
          have c9b0 : decide (x22_2 < ((rdOf ByteArray.empty l0 x10_1).size : Int)) = false := decide_eq_false c9
          clear c9
          have H' := Aside0.mk H
          clear H
          go_wp2
          go_roundg k2
          case measure => have := HK1.out; have := HK2.out; omega
          case rel => exact ⟨(wrap64 (x10_1 + 1)), bS, H', ⟨by have := HK1.out; have := HK2.out; omega⟩, ⟨bB⟩⟩
      ·rw [if_neg c7] at H
       have c7b0 : (t102 == 0) = false := beq_eq_false_iff_ne.mpr c7
       have c7b1 : (t102 != 0) = true := bne_iff_ne.mpr c7
       obtain rfl := Option.some.inj H
       have p101 : 0 ≤ (x10_1 : Int) := oD
       have q101 : x10_1 < (l0.length : Int) := oD
       obtain ⟨ad101, e101, hx101_0⟩ := Kd.at_string HR0.out x10_1 p101 q101
       cases e101
       replace hx101_0 := (HB.out.cell (World.block_lt_of_cell? w _ hx101_0)).trans hx101_0
       replace p101 := eq_true p101
       replace q101 := eq_true q101
       go_wp2_with (first | ((with_reducible refine gate_callee (f := 48) rfl ?_); refine goesL_ (some 18) rfl rfl Tryd.func48 (by kernel_rfl) rfl #[.string (rdOf ByteArray.empty l0 x10_1), .int .i64 x10_1, .bool a1] rfl bM ?_; (with_reducible refine (ident_check.calls k1 (rdOf ByteArray.empty l0 x10_1) x10_1 a1 t102 _ A6.out).mono ?_); rintro e w15 ⟨rfl, hb⟩; refine ⟨_, rfl, ?_⟩; replace HB := aB HB hb; (try clear hb); (try clear hb2); (try clear hk); (try clear hi)))
       go_ret
       exact ⟨by first | rfl | (simp [errW_none, errW_some] <;> rfl) | (simp [*, errW_none, errW_some] <;> rfl), bB⟩
     ·rw [if_neg c5] at H
      exact absurd H (by simp)
    ·rw [if_neg c4] at H
     exact absurd H (by simp)
   ·rw [if_neg c3] at H
    have c3b0 : decide (x10_1 < (l0.length : Int)) = false := decide_eq_false c3
    clear c3
    obtain rfl := Option.some.inj H
    go_wp2
    go_ret
    exact ⟨by first | rfl | (simp [errW_none, errW_some] <;> rfl) | (simp [*, errW_none, errW_some] <;> rfl), bB⟩

end Go.Proofs.YtildmfegfkiknaaDoor.X
