-- Written by a program of this session (wip/xp), out of the translation. Not trusted: Lean checks it.
import Derived.Test.YtcebjhbphcoboaaX0
-- shrunk
namespace Go.Proofs.Ytcebjhbphcoboaa.X
open Go.RowKit Go.Proofs.YtcebjhbphcoboaaW.PrintWords Go.Proofs.YtcebjhbphcoboaaW.PrintLast Go.Proofs.YtcebjhbphcoboaaW.PrintMore
attribute [local go_sem] Lab.str_gtr Lab.str_leq Lab.str_geq max2_int min2_int max_two min_two max_three min_three max_four min_four   -- for this text's walks alone
set_option linter.unusedVariables false
set_option linter.unusedSimpArgs false

/-! ### ferruleref08_Order: function 24 -/
mutual
def ferruleref08_Order.l0 : Nat → List ByteArray → List Int → Int → Option (List Int)
 | 0, _, _, _ => none
 | k + 1, x0, x3, x4 => if x4 < (x0.length : Int) then (ferruleref08_Order.l1 k x0 x3 x4 0) else (some x3)
def ferruleref08_Order.l1 : Nat → List ByteArray → List Int → Int → Int → Option (List Int)
 | 0, _, _, _, _ => none
 | k + 1, x0, x3, x4, x5 => if x5 < (x3.length : Int) then (if 0 ≤ x5 then (if 0 ≤ (rd x3 x5) then (if (rd x3 x5) < (x0.length : Int) then (if 0 ≤ x4 then (if x4 < (x0.length : Int) then (if (Op.bytesLess ((rdOf ByteArray.empty x0 (rd x3 x5)).toList) ((rdOf ByteArray.empty x0 x4).toList)) = true then (ferruleref08_Order.l1 k x0 x3 x4 (wrap64 (x5 + 1))) else ((some (([] : List Int) : List Int)).bind fun y104 => (if x5 ≤ (x3.length : Int) then ((some (x3.take (x5 : Int).toNat : List Int)).bind fun y107 => (if y104.length + y107.length < 17592186044416 then ((some (y104 ++ y107 : List Int)).bind fun y111 => ((some (([x4] : List Int) : List Int)).bind fun y114 => (if y111.length + y114.length < 17592186044416 then ((some (y111 ++ y114 : List Int)).bind fun y117 => ((some (x3.drop (x5 : Int).toNat : List Int)).bind fun y120 => (if y117.length + y120.length < 17592186044416 then (ferruleref08_Order.l0 k x0 (y117 ++ y120) (wrap64 (x4 + 1))) else (none)))) else (none)))) else (none))) else (none)))) else (none)) else (none)) else (none)) else (none)) else (none)) else ((some (([] : List Int) : List Int)).bind fun y127 => (if 0 ≤ x5 then (if x5 ≤ (x3.length : Int) then ((some (x3.take (x5 : Int).toNat : List Int)).bind fun y130 => (if y127.length + y130.length < 17592186044416 then ((some (y127 ++ y130 : List Int)).bind fun y134 => ((some (([x4] : List Int) : List Int)).bind fun y137 => (if y134.length + y137.length < 17592186044416 then ((some (y134 ++ y137 : List Int)).bind fun y140 => ((some (x3.drop (x5 : Int).toNat : List Int)).bind fun y143 => (if y140.length + y143.length < 17592186044416 then (ferruleref08_Order.l0 k x0 (y140 ++ y143) (wrap64 (x4 + 1))) else (none)))) else (none)))) else (none))) else (none)) else (none)))
end
def ferruleref08_Order.f (k : Nat) (l0 : List ByteArray) : Option (List Int) := ferruleref08_Order.l0 k l0 ([] : List Int) 0
theorem ferruleref08_Order.mono_l : ∀ k, (∀ y0 y1 y2, LeO (ferruleref08_Order.l0 k y0 y1 y2) (ferruleref08_Order.l0 (k + 1) y0 y1 y2)) ∧ (∀ y0 y1 y2 y3, LeO (ferruleref08_Order.l1 k y0 y1 y2 y3) (ferruleref08_Order.l1 (k + 1) y0 y1 y2 y3))
 | 0 => ⟨fun _ _ _ r h => by simp [ferruleref08_Order.l0] at h, fun _ _ _ _ r h => by simp [ferruleref08_Order.l1] at h⟩
 | k + 1 => by
  obtain ⟨ih0, ih1⟩ := ferruleref08_Order.mono_l k
  refine ⟨?_, ?_⟩
  ·intro y0 y1 y2
   unfold ferruleref08_Order.l0
   repeat' first
   | (with_reducible exact ih0 _ _ _)
   | (with_reducible exact ih1 _ _ _ _)
   | (with_reducible exact LeO.refl _)
   | (with_reducible exact LeO.none _)
   | (with_reducible refine LeO.ite ?_ ?_)
   | (with_reducible refine LeO.bind ?_ (fun _ => ?_))
   | exact ih0 _ _ _
   | exact ih1 _ _ _ _
   | exact LeO.none _
   | refine LeO.ite ?_ ?_
   | refine LeO.bind ?_ (fun _ => ?_)
  ·intro y0 y1 y2 y3
   unfold ferruleref08_Order.l1
   repeat' first
   | (with_reducible exact ih0 _ _ _)
   | (with_reducible exact ih1 _ _ _ _)
   | (with_reducible exact LeO.refl _)
   | (with_reducible exact LeO.none _)
   | (with_reducible refine LeO.ite ?_ ?_)
   | (with_reducible refine LeO.bind ?_ (fun _ => ?_))
   | exact ih0 _ _ _
   | exact ih1 _ _ _ _
   | exact LeO.none _
   | refine LeO.ite ?_ ?_
   | refine LeO.bind ?_ (fun _ => ?_)
theorem ferruleref08_Order.mono : ∀ a0 k, LeO (ferruleref08_Order.f k a0) (ferruleref08_Order.f (k + 1) a0) := by
 intro a0 k
 obtain ⟨ih0, ih1⟩ := ferruleref08_Order.mono_l k
 unfold ferruleref08_Order.f
 repeat' first
   | (with_reducible exact ih0 _ _ _)
   | (with_reducible exact ih1 _ _ _ _)
   | (with_reducible exact LeO.refl _)
   | (with_reducible exact LeO.none _)
   | (with_reducible refine LeO.ite ?_ ?_)
   | (with_reducible refine LeO.bind ?_ (fun _ => ?_))
   | exact ih0 _ _ _
   | exact ih1 _ _ _ _
   | exact LeO.none _
   | refine LeO.ite ?_ ?_
   | refine LeO.bind ?_ (fun _ => ?_)
def ferruleref08_Order.T6 : Bool × List (List Nat × List Nat) := (true, [([], []), ([], []), ([1], [1]), ([0, 2], [0, 2]), ([3], [3]), ([4], [4]), ([4], [4]), ([4], [4]), ([6, 7, 4], [4, 6, 7]), ([8, 4], [4, 8]), ([5, 9, 4], [4, 5, 9]), ([10, 4], [4, 10]), ([4], [4]), ([4], [4]), ([12, 13, 4], [4, 12, 13]), ([14, 4], [4, 14]), ([11, 15, 4], [4, 11, 15]), ([4, 16], [4, 16])])
def ferruleref08_Order.B6 : List Nat := [0, 0, 2, 7, 15, 31, 31, 31, 223, 479, 1023, 2047, 31, 31, 12319, 28703, 65535, 131071]
theorem ferruleref08_Order.tab6 : rtab .any (opsOf Try.f24 6) = ferruleref08_Order.T6 := by kernel_rfl
theorem ferruleref08_Order.bits6 : waitsOk ferruleref08_Order.T6.2 ferruleref08_Order.B6 = true := by kernel_rfl
def ferruleref08_Order.T8 : Bool × List (List Nat × List Nat) := (true, [([], []), ([], []), ([], []), ([1, 2], [1, 2]), ([0, 3], [0, 3]), ([], []), ([5], [5]), ([4, 6, 4], [4, 6]), ([], []), ([], []), ([8, 9], [8, 9]), ([7, 10, 7], [7, 10]), ([11, 11, 0, 1, 2, 3, 4, 5, 6, 7, 8, 9, 10, 11], [1, 8, 11])])
def ferruleref08_Order.B8 : List Nat := [0, 0, 0, 6, 15, 0, 32, 127, 0, 0, 768, 2047, 4095]
theorem ferruleref08_Order.tab8 : rtab .any (opsOf Try.f24 8) = ferruleref08_Order.T8 := by kernel_rfl
theorem ferruleref08_Order.bits8 : waitsOk ferruleref08_Order.T8.2 ferruleref08_Order.B8 = true := by kernel_rfl
set_option maxHeartbeats 8000000 in
set_option maxRecDepth 100000 in
theorem ferruleref08_Order.calls (k : Nat) (A0 : Option Addr) (c0 : Nat) (l0 : List ByteArray) (r : List Int) (w : World) (hr0 : Kd.C Kd.string w A0 l0.length l0) (hc0 : l0.length ≤ c0) (h : ferruleref08_Order.f k l0 = some r) :
  Calls Try.prog 24 #[.slice A0 l0.length c0] w fun e w' => ∃ v0_ : Value, e = .returned (v0_) ∧ Kd.R (Kd.int .i64) 3 w' w.heap.size (fun _ => True) v0_ r ∧ Below w.heap.size w w' := by
 have HR0 := Aside0.mk hr0
 have HC0 := Aside0.mk hc0
 clear hr0 hc0
 have HB := Aside0.mk (Below.refl w.heap.size w)
 have H : (ferruleref08_Order.l0 k l0 ([] : List Int) 0) = some r := h
 clear h
 have H' := Aside0.mk H
 clear H
 go_enter Try.func24, Try.ntmps24
 go_wp2
 go_loopg [3, 4] k (fun kq v3 v4 w' => ∃ (x3_1 : List Int) (x4_1 : Int), v4 = .int .i64 x4_1 ∧ Aside0 (ferruleref08_Order.l0 kq l0 x3_1 x4_1 = some r) ∧ Aside0 (kq ≤ k) ∧ Aside0 (Kd.R (Kd.int .i64) 3 w' w.heap.size (fun _ => True) v3 x3_1) ∧ Aside0 (Below w.heap.size w w'))
 case atStart => exact ⟨(([] : List Int)), (0), bS, H', ⟨Nat.le_refl _⟩, ⟨by first | exact Kd.R_nil _ _ _ _ _ | exact Kd.N_nil _ _ _ _ _ | exact Kd.V_nil _ _ _ _ _ | exact Kd.Q_nil _ _ _ _ _ | exact Kd.S_nil _ _ _ _ _⟩, ⟨bB⟩⟩
 case round =>
  clear H'
  obtain ⟨x3_1, x4_1, rfl, HA, HK1, HO_3, HB⟩ := hrel
  cases gk with
  | zero => exact absurd HA.out (by simp [ferruleref08_Order.l0])
  | succ k1 =>
   have H := HA.out
   clear HA
   simp only [ferruleref08_Order.l0] at H
   by_cases c2 : x4_1 < (l0.length : Int)
   ·rw [if_pos c2] at H
    have c2b0 : decide (x4_1 < (l0.length : Int)) = true := decide_eq_true c2
    clear c2
    have H' := Aside0.mk H
    clear H
    go_wp2
    go_loopg [5] k1 (fun kq v5 w' => ∃ (x5_2 : Int), v5 = .int .i64 x5_2 ∧ Aside0 (ferruleref08_Order.l1 kq l0 x3_1 x4_1 x5_2 = some r) ∧ Aside0 (kq ≤ k1) ∧ Aside0 (Kd.R (Kd.int .i64) 3 w' w.heap.size (fun _ => True) u3 x3_1) ∧ Aside0 (Below w.heap.size w w'))
    case atStart => exact ⟨(0), bS, H', ⟨Nat.le_refl _⟩, ⟨aRw HO_3⟩, ⟨bB⟩⟩
    case round =>
     clear H'
     try clear c2
     try clear c2b0
     try clear p2
     obtain ⟨x5_2, rfl, HA, HK2, HO_3, HB⟩ := hrel
     cases gk with
     | zero => exact absurd HA.out (by simp [ferruleref08_Order.l1])
     | succ k2 =>
      have H := HA.out
      clear HA
      simp only [ferruleref08_Order.l1] at H
      by_cases c3 : x5_2 < (x3_1.length : Int)
      ·rw [if_pos c3] at H
       have c3b0 : decide (x5_2 < (x3_1.length : Int)) = true := decide_eq_true c3
       clear c3
       by_cases c4 : 0 ≤ x5_2
       ·rw [if_pos c4] at H
        have c4b0 : decide (0 ≤ x5_2) = true := decide_eq_true c4
        clear c4
        by_cases c5 : 0 ≤ (rd x3_1 x5_2)
        ·rw [if_pos c5] at H
         have c5b0 : decide (0 ≤ (rd x3_1 x5_2)) = true := decide_eq_true c5
         clear c5
         by_cases c6 : (rd x3_1 x5_2) < (l0.length : Int)
         ·rw [if_pos c6] at H
          have c6b0 : decide ((rd x3_1 x5_2) < (l0.length : Int)) = true := decide_eq_true c6
          clear c6
          by_cases c7 : 0 ≤ x4_1
          ·rw [if_pos c7] at H
           have c7b0 : decide (0 ≤ x4_1) = true := decide_eq_true c7
           clear c7
           by_cases c8 : x4_1 < (l0.length : Int)
           ·rw [if_pos c8] at H
            have c8b0 : decide (x4_1 < (l0.length : Int)) = true := decide_eq_true c8
            clear c8
            by_cases c9 : (Op.bytesLess ((rdOf ByteArray.empty l0 (rd x3_1 x5_2)).toList) ((rdOf ByteArray.empty l0 x4_1).toList)) = true
            ·rw [if_pos c9] at H
             have c9b0 : (Op.bytesLess ((rdOf ByteArray.empty l0 (rd x3_1 x5_2)).toList) ((rdOf ByteArray.empty l0 x4_1).toList)) = true := c9
             clear c9
             have H' := Aside0.mk H
             clear H
             try go_wp2
             replace HO_3 := Aside0.mk (Kd.R_drew HO_3.out)
             replace HB := Aside0.mk (below_drew1 HB.out)
             obtain ⟨Ao11, co11, eo11⟩ := Kd.R_slice HO_3.out
             (first | subst eo11 | (injection eo11 with f1_ f2_ f3_; have f4_ := f1_.symm; have f5_ := f3_.symm; clear f1_ f2_ f3_; subst f4_; subst f5_))
             have p101 : 0 ≤ (x5_2 : Int) := oD
             have q101 : x5_2 < (x3_1.length : Int) := oD
             obtain ⟨ad101, e101, hx101_0⟩ := Kd.at_int (Kd.R_reads' HO_3.out).2.2 x5_2 p101 q101
             cases e101
             replace p101 := eq_true p101
             replace q101 := eq_true q101
             have p102 : 0 ≤ ((rd x3_1 x5_2) : Int) := oD
             have q102 : (rd x3_1 x5_2) < (l0.length : Int) := oD
             obtain ⟨ad102, e102, hx102_0⟩ := Kd.at_string HR0.out (rd x3_1 x5_2) p102 q102
             have hw102_0 := hx102_0
             cases e102
             replace hx102_0 := (HB.out.cell (World.block_lt_of_cell? w _ hx102_0)).trans hx102_0
             replace p102 := eq_true p102
             replace q102 := eq_true q102
             have p103 : 0 ≤ (x4_1 : Int) := oD
             have q103 : x4_1 < (l0.length : Int) := oD
             obtain ⟨ad103, e103, hx103_0⟩ := Kd.at_string HR0.out x4_1 p103 q103
             have hw103_0 := hx103_0
             obtain rfl : ad102 = ad103 := (by injection e103)
             replace hx103_0 := (HB.out.cell (World.block_lt_of_cell? w _ hx103_0)).trans hx103_0
             replace p103 := eq_true p103
             replace q103 := eq_true q103
             refine start_ (n := 18) (S := fun w' => w'.cell? (ad101.add (x5_2).toNat) = some (.int .i64 (rd x3_1 x5_2)) ∧ w'.cell? (ad102.add ((rd x3_1 x5_2)).toNat) = some (.string (rdOf ByteArray.empty l0 (rd x3_1 x5_2))) ∧ w'.cell? (ad102.add (x4_1).toNat) = some (.string (rdOf ByteArray.empty l0 x4_1))) (ds := []) #[false, false, false, false, false, false, false, false, false, false, false, false, false, false, false, false, false, false] (by kernel_rfl) rfl rfl ⟨hx101_0, ((HB.out.cell (World.block_lt_of_cell? w _ hw102_0)).trans hw102_0), ((HB.out.cell (World.block_lt_of_cell? w _ hw103_0)).trans hw103_0)⟩ (fun hHeld => ?_); refine with_tabW ferruleref08_Order.tab6 ferruleref08_Order.bits6 (fun HT_ HW_ => ?_)
             generalize wr.drew = w10 at HO_3 HB hx101_0 hx102_0 hx103_0 hHeld ⊢
             refine pV 0 12 rfl rfl ?_
             refine pV 1 13 rfl rfl ?_
             refine pV 2 14 rfl rfl ?_
             refine pV 3 15 rfl rfl ?_
             refine pV 4 16 rfl rfl ?_
             refine pV 5 17 rfl rfl ?_
             refine pV 6 18 rfl rfl ?_
             refine pV 7 19 rfl rfl ?_
             refine pV 8 20 rfl rfl ?_
             refine pV 12 24 rfl rfl ?_
             refine pV 13 25 rfl rfl ?_
             refine pV 14 26 rfl rfl ?_
             refine tV 9 21 rfl rfl ?_
             refine pV 10 22 rfl rfl ?_
             refine tV 11 23 rfl rfl ?_
             refine tV 15 27 rfl rfl ?_
             refine pV 16 28 rfl rfl ?_
             refine pV 17 29 rfl rfl ?_
             refine done_ (done_of HT_.out (by kernel_rfl)) ?_
             try go_wp2
             go_roundg k2
             case measure => have := HK1.out; have := HK2.out; omega
             case rel => exact ⟨(wrap64 (x5_2 + 1)), bS, H', ⟨by have := HK1.out; have := HK2.out; omega⟩, ⟨aRw HO_3⟩, ⟨bB⟩⟩
            ·rw [if_neg c9] at H
             have c9b0 : (Op.bytesLess ((rdOf ByteArray.empty l0 (rd x3_1 x5_2)).toList) ((rdOf ByteArray.empty l0 x4_1).toList)) = false := by simpa using c9
             clear c9
             obtain ⟨y104, hy104⟩ : ∃ y_ : List Int, y_ = (([] : List Int)) := ⟨_, rfl⟩
             replace H : (if x5_2 ≤ (x3_1.length : Int) then ((some (x3_1.take (x5_2 : Int).toNat : List Int)).bind fun y107 => (if y104.length + y107.length < 17592186044416 then ((some (y104 ++ y107 : List Int)).bind fun y111 => ((some (([x4_1] : List Int) : List Int)).bind fun y114 => (if y111.length + y114.length < 17592186044416 then ((some (y111 ++ y114 : List Int)).bind fun y117 => ((some (x3_1.drop (x5_2 : Int).toNat : List Int)).bind fun y120 => (if y117.length + y120.length < 17592186044416 then (ferruleref08_Order.l0 k2 l0 (y117 ++ y120) (wrap64 (x4_1 + 1))) else (none)))) else (none)))) else (none))) else (none)) = some r := by first | (rw [hy104]; with_reducible exact H) | (have H2_ := (Option.bind_some _ _).symm.trans H; rw [hy104]; with_reducible exact H2_) | (have H2_ := (Option.bind_some _ _).symm.trans H; with_reducible exact H2_) | with_reducible exact H | (rw [hy104]; exact H) | exact H
             have Ny104 := Aside0.mk hy104
             clear hy104
             have c12b0 := eq_true (oD : 0 ≤ x5_2)
             by_cases c13 : x5_2 ≤ (x3_1.length : Int)
             ·rw [if_pos c13] at H
              have c13b0 := eq_true c13
              have c13b1 : decide (x5_2 ≤ (x3_1.length : Int)) = true := decide_eq_true c13
              clear c13
              obtain ⟨y107, hy107⟩ : ∃ y_ : List Int, y_ = (x3_1.take (x5_2 : Int).toNat) := ⟨_, rfl⟩
              replace H : (if y104.length + y107.length < 17592186044416 then ((some (y104 ++ y107 : List Int)).bind fun y111 => ((some (([x4_1] : List Int) : List Int)).bind fun y114 => (if y111.length + y114.length < 17592186044416 then ((some (y111 ++ y114 : List Int)).bind fun y117 => ((some (x3_1.drop (x5_2 : Int).toNat : List Int)).bind fun y120 => (if y117.length + y120.length < 17592186044416 then (ferruleref08_Order.l0 k2 l0 (y117 ++ y120) (wrap64 (x4_1 + 1))) else (none)))) else (none)))) else (none)) = some r := by first | (rw [hy107]; with_reducible exact H) | (have H2_ := (Option.bind_some _ _).symm.trans H; rw [hy107]; with_reducible exact H2_) | (have H2_ := (Option.bind_some _ _).symm.trans H; with_reducible exact H2_) | with_reducible exact H | (rw [hy107]; exact H) | exact H
              have Ny107 := Aside0.mk hy107
              clear hy107
              by_cases c14 : y104.length + y107.length < 17592186044416
              ·rw [if_pos c14] at H
               have LMc14 := Aside0.mk c14
               clear c14
               obtain ⟨y111, hy111⟩ : ∃ y_ : List Int, y_ = (y104 ++ y107) := ⟨_, rfl⟩
               replace H : ((some (([x4_1] : List Int) : List Int)).bind fun y114 => (if y111.length + y114.length < 17592186044416 then ((some (y111 ++ y114 : List Int)).bind fun y117 => ((some (x3_1.drop (x5_2 : Int).toNat : List Int)).bind fun y120 => (if y117.length + y120.length < 17592186044416 then (ferruleref08_Order.l0 k2 l0 (y117 ++ y120) (wrap64 (x4_1 + 1))) else (none)))) else (none))) = some r := by first | (rw [hy111]; with_reducible exact H) | (have H2_ := (Option.bind_some _ _).symm.trans H; rw [hy111]; with_reducible exact H2_) | (have H2_ := (Option.bind_some _ _).symm.trans H; with_reducible exact H2_) | with_reducible exact H | (rw [hy111]; exact H) | exact H
               have Ny111 := Aside0.mk hy111
               clear hy111
               obtain ⟨y114, hy114⟩ : ∃ y_ : List Int, y_ = (([x4_1] : List Int)) := ⟨_, rfl⟩
               replace H : (if y111.length + y114.length < 17592186044416 then ((some (y111 ++ y114 : List Int)).bind fun y117 => ((some (x3_1.drop (x5_2 : Int).toNat : List Int)).bind fun y120 => (if y117.length + y120.length < 17592186044416 then (ferruleref08_Order.l0 k2 l0 (y117 ++ y120) (wrap64 (x4_1 + 1))) else (none)))) else (none)) = some r := by first | (rw [hy114]; with_reducible exact H) | (have H2_ := (Option.bind_some _ _).symm.trans H; rw [hy114]; with_reducible exact H2_) | (have H2_ := (Option.bind_some _ _).symm.trans H; with_reducible exact H2_) | with_reducible exact H | (rw [hy114]; exact H) | exact H
               have Ny114 := Aside0.mk hy114
               clear hy114
               by_cases c15 : y111.length + y114.length < 17592186044416
               ·rw [if_pos c15] at H
                have LMc15 := Aside0.mk c15
                clear c15
                obtain ⟨y117, hy117⟩ : ∃ y_ : List Int, y_ = (y111 ++ y114) := ⟨_, rfl⟩
                replace H : ((some (x3_1.drop (x5_2 : Int).toNat : List Int)).bind fun y120 => (if y117.length + y120.length < 17592186044416 then (ferruleref08_Order.l0 k2 l0 (y117 ++ y120) (wrap64 (x4_1 + 1))) else (none))) = some r := by first | (rw [hy117]; with_reducible exact H) | (have H2_ := (Option.bind_some _ _).symm.trans H; rw [hy117]; with_reducible exact H2_) | (have H2_ := (Option.bind_some _ _).symm.trans H; with_reducible exact H2_) | with_reducible exact H | (rw [hy117]; exact H) | exact H
                have Ny117 := Aside0.mk hy117
                clear hy117
                have c16b0 := eq_true (oD : 0 ≤ x5_2)
                have c17b0 := eq_true (oD : x5_2 ≤ (x3_1.length : Int))
                obtain ⟨y120, hy120⟩ : ∃ y_ : List Int, y_ = (x3_1.drop (x5_2 : Int).toNat) := ⟨_, rfl⟩
                replace H : (if y117.length + y120.length < 17592186044416 then (ferruleref08_Order.l0 k2 l0 (y117 ++ y120) (wrap64 (x4_1 + 1))) else (none)) = some r := by first | (rw [hy120]; with_reducible exact H) | (have H2_ := (Option.bind_some _ _).symm.trans H; rw [hy120]; with_reducible exact H2_) | (have H2_ := (Option.bind_some _ _).symm.trans H; with_reducible exact H2_) | with_reducible exact H | (rw [hy120]; exact H) | exact H
                have Ny120 := Aside0.mk hy120
                clear hy120
                by_cases c18 : y117.length + y120.length < 17592186044416
                ·rw [if_pos c18] at H
                 have LMc18 := Aside0.mk c18
                 clear c18
                 obtain ⟨y124, hy124⟩ : ∃ y_ : List Int, y_ = (y117 ++ y120) := ⟨_, rfl⟩
                 replace H : (ferruleref08_Order.l0 k2 l0 y124 (wrap64 (x4_1 + 1))) = some r := by first | (rw [hy124]; with_reducible exact H) | (have H2_ := (Option.bind_some _ _).symm.trans H; rw [hy124]; with_reducible exact H2_) | (have H2_ := (Option.bind_some _ _).symm.trans H; with_reducible exact H2_) | with_reducible exact H | (rw [hy124]; exact H) | exact H
                 have Ny124 := Aside0.mk hy124
                 clear hy124
                 have H' := Aside0.mk H
                 clear H
                 try go_wp2
                 replace HO_3 := Aside0.mk (Kd.R_drew HO_3.out)
                 replace HB := Aside0.mk (below_drew1 HB.out)
                 obtain ⟨Ao20, co20, eo20⟩ := Kd.R_slice HO_3.out
                 (first | subst eo20 | (injection eo20 with f1_ f2_ f3_; have f4_ := f1_.symm; have f5_ := f3_.symm; clear f1_ f2_ f3_; subst f4_; subst f5_))
                 have p101 : 0 ≤ (x5_2 : Int) := oD
                 have q101 : x5_2 < (x3_1.length : Int) := oD
                 obtain ⟨ad101, e101, hx101_0⟩ := Kd.at_int (Kd.R_reads' HO_3.out).2.2 x5_2 p101 q101
                 cases e101
                 replace p101 := eq_true p101
                 replace q101 := eq_true q101
                 have p102 : 0 ≤ ((rd x3_1 x5_2) : Int) := oD
                 have q102 : (rd x3_1 x5_2) < (l0.length : Int) := oD
                 obtain ⟨ad102, e102, hx102_0⟩ := Kd.at_string HR0.out (rd x3_1 x5_2) p102 q102
                 have hw102_0 := hx102_0
                 cases e102
                 replace hx102_0 := (HB.out.cell (World.block_lt_of_cell? w _ hx102_0)).trans hx102_0
                 replace p102 := eq_true p102
                 replace q102 := eq_true q102
                 have p103 : 0 ≤ (x4_1 : Int) := oD
                 have q103 : x4_1 < (l0.length : Int) := oD
                 obtain ⟨ad103, e103, hx103_0⟩ := Kd.at_string HR0.out x4_1 p103 q103
                 have hw103_0 := hx103_0
                 obtain rfl : ad102 = ad103 := (by injection e103)
                 replace hx103_0 := (HB.out.cell (World.block_lt_of_cell? w _ hx103_0)).trans hx103_0
                 replace p103 := eq_true p103
                 replace q103 := eq_true q103
                 refine start_ (n := 18) (S := fun w' => w'.cell? (ad101.add (x5_2).toNat) = some (.int .i64 (rd x3_1 x5_2)) ∧ w'.cell? (ad102.add ((rd x3_1 x5_2)).toNat) = some (.string (rdOf ByteArray.empty l0 (rd x3_1 x5_2))) ∧ w'.cell? (ad102.add (x4_1).toNat) = some (.string (rdOf ByteArray.empty l0 x4_1))) (ds := []) #[false, false, false, false, false, false, false, false, false, false, false, false, false, false, false, false, false, false] (by kernel_rfl) rfl rfl ⟨hx101_0, ((HB.out.cell (World.block_lt_of_cell? w _ hw102_0)).trans hw102_0), ((HB.out.cell (World.block_lt_of_cell? w _ hw103_0)).trans hw103_0)⟩ (fun hHeld => ?_); refine with_tabW ferruleref08_Order.tab6 ferruleref08_Order.bits6 (fun HT_ HW_ => ?_)
                 generalize wr.drew = w19 at HO_3 HB hx101_0 hx102_0 hx103_0 hHeld ⊢
                 refine pV 0 12 rfl rfl ?_
                 refine pV 1 13 rfl rfl ?_
                 refine pV 2 14 rfl rfl ?_
                 refine pV 3 15 rfl rfl ?_
                 refine pV 4 16 rfl rfl ?_
                 refine pV 5 17 rfl rfl ?_
                 refine pV 6 18 rfl rfl ?_
                 refine pV 7 19 rfl rfl ?_
                 refine pV 8 20 rfl rfl ?_
                 refine pV 12 24 rfl rfl ?_
                 refine pV 13 25 rfl rfl ?_
                 refine pV 14 26 rfl rfl ?_
                 refine tV 9 21 rfl rfl ?_
                 refine pV 10 22 rfl rfl ?_
                 refine tV 11 23 rfl rfl ?_
                 refine tV 15 27 rfl rfl ?_
                 refine pV 16 28 rfl rfl ?_
                 refine pV 17 29 rfl rfl ?_
                 refine done_ (done_of HT_.out (by kernel_rfl)) ?_
                 try go_wp2
                 replace HO_3 := Aside0.mk (Kd.R_drew HO_3.out)
                 replace HB := Aside0.mk (below_drew1 HB.out)
                 have q22 : (x5_2 : Int) ≤ ((x3_1.length : Int) : Int) := oD
                 obtain ⟨i022, hi022, _, hsz22, _⟩ := info_parts info3
                 have hroom22 : x3_1.length ≤ co20 := (Kd.R_reads' HO_3.out).2.1
                 have hC22 : Kd.C (Kd.int .i64) _ (some ad101) x3_1.length x3_1 := (Kd.R_reads' HO_3.out).2.2
                 have hcut22 := cut_to (P := Try.prog) 46 3 .i64 Try.underlying46 hi022 (some ad101) x3_1.length co20 x5_2 oD q22 hroom22
                 have hr22 := Kd.C_take (m := (x5_2 : Int).toNat) hC22 (by omega)
                 have hy22 : y107.length = (x5_2 : Int).toNat := (by rw [Ny107.out, List.length_take]; omega)
                 rw [← Ny107.out] at hr22
                 rw [← hy22] at hcut22
                 have HR110 := Aside0.mk hr22
                 have HC110 := Aside0.mk (show y107.length ≤ co20 from by omega)
                 clear hr22 hC22 hroom22 hi022 hsz22
                 have KY22 := Aside0.mk hy22
                 clear hy22
                 have KL22 := Aside0.mk (show (x5_2 : Int).toNat ≤ x3_1.length from by omega)
                 replace q22 := eq_true q22
                 have q23 : (x5_2 : Int) ≤ ((x3_1.length : Int) : Int) := oD
                 obtain ⟨i023, hi023, _, hsz23, _⟩ := info_parts info3
                 have hroom23 : x3_1.length ≤ co20 := (Kd.R_reads' HO_3.out).2.1
                 have hC23 : Kd.C (Kd.int .i64) _ (some ad101) x3_1.length x3_1 := (Kd.R_reads' HO_3.out).2.2
                 have q023 : (0 : Int) ≤ (x5_2 : Int) := oD
                 have hcut23 := cut_from (P := Try.prog) 46 3 .i64 Try.underlying46 hi023 1 hsz23 (some ad101) x3_1.length co20 x5_2 q023 q23
                 have hr23 := Kd.C_drop (m := (x5_2 : Int).toNat) (c := co20) hC23 (by omega) hroom23
                 obtain ⟨A23, hA23⟩ : ∃ A1, A1 = (if co20 = (x5_2 : Int).toNat then (some ad101) else ((some ad101) : Option Addr).map (·.add ((x5_2 : Int).toNat * 1))) := ⟨_, rfl⟩
                 obtain ⟨c23, hc23⟩ : ∃ c1, c1 = co20 - (x5_2 : Int).toNat := ⟨_, rfl⟩
                 have hy23 : y120.length = x3_1.length - (x5_2 : Int).toNat := (by rw [Ny120.out, List.length_drop] <;> omega)
                 rw [show (x3_1).drop (x5_2 : Int).toNat = y120 from Ny120.out.symm] at hr23
                 replace hr23 : Kd.C (Kd.int .i64) _ A23 y120.length y120 := (by rw [hA23]; exact hr23)
                 rw [← hy23, ← hA23, ← hc23] at hcut23
                 have HR123 := Aside0.mk hr23
                 have HC123 := Aside0.mk (show y120.length ≤ c23 from by rw [hy23, hc23]; exact Nat.sub_le_sub_right hroom23 _)
                 clear hr23 hC23 hroom23 hi023 hsz23 hc23
                 have KY23 := Aside0.mk hy23
                 have KA23 := Aside0.mk hA23
                 clear hy23 hA23
                 have KL23 := Aside0.mk (show (x5_2 : Int).toNat ≤ x3_1.length from by omega)
                 replace q23 := eq_true q23
                 refine start_ (n := 13) (S := fun w' => True) (ds := []) #[false, false, false, false, false, false, false, false, false, false, false, false, false] (by kernel_rfl) rfl rfl trivial (fun hHeld => ?_); refine with_tabW ferruleref08_Order.tab8 ferruleref08_Order.bits8 (fun HT_ HW_ => ?_)
                 generalize w19.drew = w21 at HO_3 HB HR110 HR123 hHeld ⊢
                 refine pV 1 33 rfl rfl ?_
                 refine pV 2 34 rfl rfl ?_
                 refine pV 3 35 rfl rfl ?_
                 refine pV 5 37 rfl rfl ?_
                 refine pV 8 40 rfl rfl ?_
                 refine pV 9 41 rfl rfl ?_
                 refine pV 10 42 rfl rfl ?_
                 refine join_ (σ := Value × Value × Value) 3 #[true, true, true, true, true, true, true, false, true, true, true, false, false] (fun s_ => [(32, s_.1), (36, s_.2.1), (38, s_.2.2)]) (fun s_ w' => (Kd.R (Kd.int .i64) 3 w' w.heap.size (fun k_ => some k_ ≠ (s_.2.2 : Value).ownBlock ∧ some k_ ≠ (.slice (some ad101) x3_1.length co20 : Value).ownBlock) s_.2.1 y111) ∧ (Kd.R (Kd.int .i64) 3 w' w.heap.size (fun k_ => some k_ ≠ (s_.2.1 : Value).ownBlock ∧ some k_ ≠ (.slice (some ad101) x3_1.length co20 : Value).ownBlock) s_.2.2 y114) ∧ (Kd.R (Kd.int .i64) 3 w' w.heap.size (fun k_ => some k_ ≠ (s_.2.1 : Value).ownBlock ∧ some k_ ≠ (s_.2.2 : Value).ownBlock) (.slice (some ad101) x3_1.length co20) x3_1) ∧ (Below w.heap.size w w')) ?_ ?_
                 rotate_left
                 ·intro hCont
                  refine two_ (i := 0) (j := 6) (Ni := some 32) (Nj := some 38) #[true, true, true, true, false, true, false, false, true, true, true, false, false] #[false, true, true, true, false, true, true, false, true, true, true, false, false] rfl rfl rfl rfl (two_of HT_.out (by kernel_rfl)) (by decide) (by decide) (fun K hK => ?_) (fun K hK => ?_)
                  ·skip
                   refine Kd.R_lit_step (Kd.int .i64) _ 3 ?hg (N := 32) ?hd (xs := ([] : List Int)) (inner := []) (ok := fun _ => True) (okp := fun _ => True) ?hr ?hp (fun _ hk => hk) trivial (Below.refl _ _) (Nat.le_refl _) (by simp) ?_; (case hd => rfl); (case hg => rfl); (case hr => first | (go_simp; done) | (go_simp; rfl)); (case hp => exact (Reps.none _ _))
                   intro v105 w24 ho25 hb hg_ hnew_
                   clear hg_ hnew_
                   (first | rw [← Ny104.out] at ho25 | (simp only [Int.reduceToNat] at ho25; rw [← Ny104.out] at ho25))
                   have HO106 := aN ho25 HO_3 HB
                   replace HO_3 := aE HO_3 ho25 hb
                   replace HR110 := aC HR110 hb
                   replace HR123 := aC HR123 hb
                   replace HB := aB HB hb
                   clear hb ho25
                   refine hK.out _ _ trivial (fun hHeld => ?_)
                   clear hK K
                   refine norm_ (a' := ?_) ?_ ?_
                   rotate_left
                   ·show Act.put _ (some 32) _ = _
                    simp only [Act.put, List.setIfInBounds_toArray, List.set_cons_zero, List.set_cons_succ, i64_w, i32_w]
                    rfl
                   refine two_ (i := 4) (j := 6) (Ni := some 36) (Nj := some 38) #[true, true, true, true, true, true, false, false, true, true, true, false, false] #[true, true, true, true, false, true, true, false, true, true, true, false, false] rfl rfl rfl rfl (two_of HT_.out (by kernel_rfl)) (by decide) (by decide) (fun K hK => ?_) (fun K hK => ?_)
                   ·skip
                    refine Kd.R_append_rows_step (Kd.int .i64) (w0 := w) w.heap.size (by rfl) (.tmp 32) (.tmp 35) 46 3 (.int .i64 0) 8 rfl Try.underlying46 info3 rfl (by decide) (by omega) v105 y104 y107 _ _ _ (fun k_ => some k_ ≠ (.slice (some ad101) x3_1.length co20 : Value).ownBlock) (fun _ => False) rfl rfl ?aO ?aR (fun _ _ h => h) (fun _ h => h.elim) ?aF ?aB ?aS ?aL ?_
                    (case aR => exact aCw HR110)
                    (case aB => exact bB)
                    (case aF => exact (fun k_ hk => Kd.fresh' (Kd.R_lt (aRw HO_3)) k_ hk))
                    (case aO => exact (by (with_reducible repeat (first | apply Kd.R_alloc | apply Kd.R_drewN | apply Kd.R_drew)); exact Kd.R_mono HO106.out (fun _ hk => hk.2)))
                    (case aS => exact (below_size bB))
                    (case aL => have := LMc14.out; omega)
                    intro v112 w26 ho hb hg hat
                    rw [← Ny111.out] at ho
                    replace HB := Aside0.mk hb
                    replace HR110 := Aside0.mk ((show Kd.C (Kd.int .i64) w26 (some ad101) y107.length y107 from by rw [Ny107.out]; exact Kd.C_take (m := (x5_2 : Int).toNat) ((Kd.R_reads' (Kd.R_after (ok := (fun _ => True)) (aRw HO_3) hg hat)).2.2) KL22.out))
                    replace HR123 := Aside0.mk ((show Kd.C (Kd.int .i64) w26 A23 y120.length y120 from by rw [Ny120.out, KA23.out]; exact Kd.C_drop (m := (x5_2 : Int).toNat) (c := co20) ((Kd.R_reads' (Kd.R_after (ok := (fun _ => True)) (aRw HO_3) hg hat)).2.2) KL23.out ((Kd.R_reads' (Kd.R_after (ok := (fun _ => True)) (aRw HO_3) hg hat)).2.1)))
                    replace HO_3 := Aside0.mk (Kd.R_after (ok := (fun _ => True)) (aRw HO_3) hg hat)
                    have HO113 := Aside0.mk ho
                    clear HO106
                    clear ho hb hg hat
                    refine hK.out _ _ trivial (fun hHeld => ?_)
                    clear hK K
                    refine norm_ (a' := ?_) ?_ ?_
                    rotate_left
                    ·show Act.put _ (some 36) _ = _
                     simp only [Act.put, List.setIfInBounds_toArray, List.set_cons_zero, List.set_cons_succ, i64_w, i32_w]
                     rfl
                    refine one_ (i := 6) (N := some 38) #[true, true, true, true, true, true, true, false, true, true, true, false, false] rfl rfl (one_of HT_.out (by kernel_rfl)) (by decide) (fun K hK => ?_)
                    refine Kd.R_lit_step (Kd.int .i64) _ 3 ?hg (N := 38) ?hd (xs := ([x4_1] : List Int)) (inner := [.int .i64 x4_1]) (ok := fun _ => True) (okp := fun _ => True) ?hr ?hp (fun _ hk => hk) trivial (Below.refl _ _) (Nat.le_refl _) (by simp) ?_; (case hd => rfl); (case hg => rfl); (case hr => first | (go_simp; done) | (go_simp; rfl)); (case hp => exact (Reps.one (show Kd.M (Kd.int .i64) _ _ _ x4_1 [.int .i64 x4_1] from rfl) (Reps.none _ _)))
                    intro v115 w27 ho28 hb hg_ hnew_
                    clear hg_ hnew_
                    (first | rw [← Ny114.out] at ho28 | (simp only [Int.reduceToNat] at ho28; rw [← Ny114.out] at ho28))
                    have HO116 := Aside0.mk (Kd.R_lower (Kd.R_new' (Kd.R_new' ho28 (Kd.R_lt (aRw HO_3))) (Kd.R_lt (aRw HO113))) (below_size bB))
                    replace HO_3 := aE HO_3 ho28 hb
                    replace HO113 := aE HO113 ho28 hb
                    replace HR110 := aC HR110 hb
                    replace HR123 := aC HR123 hb
                    replace HB := aB HB hb
                    clear hb ho28
                    refine hK.out _ _ trivial (fun hHeld => ?_)
                    clear hK K
                    refine norm_ (a' := ?_) ?_ ?_
                    rotate_left
                    ·show Act.put _ (some 38) _ = _
                     simp only [Act.put, List.setIfInBounds_toArray, List.set_cons_zero, List.set_cons_succ, i64_w, i32_w]
                     rfl
                    exact norm_ (by simp only [putAll, Act.put, List.setIfInBounds_toArray, List.set_cons_zero, List.set_cons_succ]) (hCont (v105, v112, v115) _ ⟨(by (with_reducible repeat (first | apply Kd.R_alloc | apply Kd.R_drewN | apply Kd.R_drew)); exact Kd.R_mono HO113.out bK), (by (with_reducible repeat (first | apply Kd.R_alloc | apply Kd.R_drewN | apply Kd.R_drew)); exact Kd.R_mono HO116.out bK), (by (with_reducible repeat (first | apply Kd.R_alloc | apply Kd.R_drewN | apply Kd.R_drew)); exact Kd.R_mono HO_3.out bK), bB⟩)
                   ·skip
                    refine Kd.R_lit_step (Kd.int .i64) _ 3 ?hg (N := 38) ?hd (xs := ([x4_1] : List Int)) (inner := [.int .i64 x4_1]) (ok := fun _ => True) (okp := fun _ => True) ?hr ?hp (fun _ hk => hk) trivial (Below.refl _ _) (Nat.le_refl _) (by simp) ?_; (case hd => rfl); (case hg => rfl); (case hr => first | (go_simp; done) | (go_simp; rfl)); (case hp => exact (Reps.one (show Kd.M (Kd.int .i64) _ _ _ x4_1 [.int .i64 x4_1] from rfl) (Reps.none _ _)))
                    intro v115 w26 ho27 hb hg_ hnew_
                    clear hg_ hnew_
                    (first | rw [← Ny114.out] at ho27 | (simp only [Int.reduceToNat] at ho27; rw [← Ny114.out] at ho27))
                    have HO116 := Aside0.mk (Kd.R_lower (Kd.R_new' (Kd.R_new' ho27 (Kd.R_lt (aRw HO_3))) (Kd.R_lt (aRw HO106))) (below_size bB))
                    replace HO_3 := aE HO_3 ho27 hb
                    replace HO106 := aE HO106 ho27 hb
                    replace HR110 := aC HR110 hb
                    replace HR123 := aC HR123 hb
                    replace HB := aB HB hb
                    clear hb ho27
                    refine hK.out _ _ trivial (fun hHeld => ?_)
                    clear hK K
                    refine norm_ (a' := ?_) ?_ ?_
                    rotate_left
                    ·show Act.put _ (some 38) _ = _
                     simp only [Act.put, List.setIfInBounds_toArray, List.set_cons_zero, List.set_cons_succ, i64_w, i32_w]
                     rfl
                    refine one_ (i := 4) (N := some 36) #[true, true, true, true, true, true, true, false, true, true, true, false, false] rfl rfl (one_of HT_.out (by kernel_rfl)) (by decide) (fun K hK => ?_)
                    refine Kd.R_append_rows_step (Kd.int .i64) (w0 := w) w.heap.size (by rfl) (.tmp 32) (.tmp 35) 46 3 (.int .i64 0) 8 rfl Try.underlying46 info3 rfl (by decide) (by omega) v105 y104 y107 _ _ _ (fun k_ => some k_ ≠ (.slice (some ad101) x3_1.length co20 : Value).ownBlock ∧ some k_ ≠ (v115 : Value).ownBlock) (fun _ => False) rfl rfl ?aO ?aR (fun _ _ h => h) (fun _ h => h.elim) ?aF ?aB ?aS ?aL ?_
                    (case aR => exact aCw HR110)
                    (case aB => exact bB)
                    (case aF => exact (fun k_ hk => ⟨Kd.fresh' (Kd.R_lt (aRw HO_3)) k_ hk, Kd.fresh' (Kd.R_lt (aRw HO116)) k_ hk⟩))
                    (case aO => exact (by (with_reducible repeat (first | apply Kd.R_alloc | apply Kd.R_drewN | apply Kd.R_drew)); exact Kd.R_mono HO106.out bK))
                    (case aS => exact (below_size bB))
                    (case aL => have := LMc14.out; omega)
                    intro v112 w28 ho hb hg hat
                    rw [← Ny111.out] at ho
                    replace HO116 := Aside0.mk (Kd.R_after (ok := (fun k_ => some k_ ≠ (.slice (some ad101) x3_1.length co20 : Value).ownBlock)) (by (with_reducible repeat (first | apply Kd.R_alloc | apply Kd.R_drewN | apply Kd.R_drew)); exact Kd.R_mono HO116.out bK) hg hat)
                    replace HB := Aside0.mk hb
                    replace HR110 := Aside0.mk ((show Kd.C (Kd.int .i64) w28 (some ad101) y107.length y107 from by rw [Ny107.out]; exact Kd.C_take (m := (x5_2 : Int).toNat) ((Kd.R_reads' (Kd.R_after (ok := (fun k_ => some k_ ≠ (v115 : Value).ownBlock)) (by (with_reducible repeat (first | apply Kd.R_alloc | apply Kd.R_drewN | apply Kd.R_drew)); exact Kd.R_mono HO_3.out bK) hg hat)).2.2) KL22.out))
                    replace HR123 := Aside0.mk ((show Kd.C (Kd.int .i64) w28 A23 y120.length y120 from by rw [Ny120.out, KA23.out]; exact Kd.C_drop (m := (x5_2 : Int).toNat) (c := co20) ((Kd.R_reads' (Kd.R_after (ok := (fun k_ => some k_ ≠ (v115 : Value).ownBlock)) (by (with_reducible repeat (first | apply Kd.R_alloc | apply Kd.R_drewN | apply Kd.R_drew)); exact Kd.R_mono HO_3.out bK) hg hat)).2.2) KL23.out ((Kd.R_reads' (Kd.R_after (ok := (fun k_ => some k_ ≠ (v115 : Value).ownBlock)) (by (with_reducible repeat (first | apply Kd.R_alloc | apply Kd.R_drewN | apply Kd.R_drew)); exact Kd.R_mono HO_3.out bK) hg hat)).2.1)))
                    replace HO_3 := Aside0.mk (Kd.R_after (ok := (fun k_ => some k_ ≠ (v115 : Value).ownBlock)) (by (with_reducible repeat (first | apply Kd.R_alloc | apply Kd.R_drewN | apply Kd.R_drew)); exact Kd.R_mono HO_3.out bK) hg hat)
                    have HO113 := Aside0.mk ho
                    clear HO106
                    clear ho hb hg hat
                    refine hK.out _ _ trivial (fun hHeld => ?_)
                    clear hK K
                    refine norm_ (a' := ?_) ?_ ?_
                    rotate_left
                    ·show Act.put _ (some 36) _ = _
                     simp only [Act.put, List.setIfInBounds_toArray, List.set_cons_zero, List.set_cons_succ, i64_w, i32_w]
                     rfl
                    exact norm_ (by simp only [putAll, Act.put, List.setIfInBounds_toArray, List.set_cons_zero, List.set_cons_succ]) (hCont (v105, v112, v115) _ ⟨(by (with_reducible repeat (first | apply Kd.R_alloc | apply Kd.R_drewN | apply Kd.R_drew)); exact Kd.R_mono HO113.out bK), (by (with_reducible repeat (first | apply Kd.R_alloc | apply Kd.R_drewN | apply Kd.R_drew)); exact Kd.R_mono HO116.out bK), (by (with_reducible repeat (first | apply Kd.R_alloc | apply Kd.R_drewN | apply Kd.R_drew)); exact Kd.R_mono HO_3.out bK), bB⟩)
                  ·skip
                   refine Kd.R_lit_step (Kd.int .i64) _ 3 ?hg (N := 38) ?hd (xs := ([x4_1] : List Int)) (inner := [.int .i64 x4_1]) (ok := fun _ => True) (okp := fun _ => True) ?hr ?hp (fun _ hk => hk) trivial (Below.refl _ _) (Nat.le_refl _) (by simp) ?_; (case hd => rfl); (case hg => rfl); (case hr => first | (go_simp; done) | (go_simp; rfl)); (case hp => exact (Reps.one (show Kd.M (Kd.int .i64) _ _ _ x4_1 [.int .i64 x4_1] from rfl) (Reps.none _ _)))
                   intro v115 w24 ho25 hb hg_ hnew_
                   clear hg_ hnew_
                   (first | rw [← Ny114.out] at ho25 | (simp only [Int.reduceToNat] at ho25; rw [← Ny114.out] at ho25))
                   have HO116 := aN ho25 HO_3 HB
                   replace HO_3 := aE HO_3 ho25 hb
                   replace HR110 := aC HR110 hb
                   replace HR123 := aC HR123 hb
                   replace HB := aB HB hb
                   clear hb ho25
                   refine hK.out _ _ trivial (fun hHeld => ?_)
                   clear hK K
                   refine norm_ (a' := ?_) ?_ ?_
                   rotate_left
                   ·show Act.put _ (some 38) _ = _
                    simp only [Act.put, List.setIfInBounds_toArray, List.set_cons_zero, List.set_cons_succ, i64_w, i32_w]
                    rfl
                   refine one_ (i := 0) (N := some 32) #[true, true, true, true, false, true, true, false, true, true, true, false, false] rfl rfl (one_of HT_.out (by kernel_rfl)) (by decide) (fun K hK => ?_)
                   refine Kd.R_lit_step (Kd.int .i64) _ 3 ?hg (N := 32) ?hd (xs := ([] : List Int)) (inner := []) (ok := fun _ => True) (okp := fun _ => True) ?hr ?hp (fun _ hk => hk) trivial (Below.refl _ _) (Nat.le_refl _) (by simp) ?_; (case hd => rfl); (case hg => rfl); (case hr => first | (go_simp; done) | (go_simp; rfl)); (case hp => exact (Reps.none _ _))
                   intro v105 w26 ho27 hb hg_ hnew_
                   clear hg_ hnew_
                   (first | rw [← Ny104.out] at ho27 | (simp only [Int.reduceToNat] at ho27; rw [← Ny104.out] at ho27))
                   have HO106 := Aside0.mk (Kd.R_lower (Kd.R_new' (Kd.R_new' ho27 (Kd.R_lt (aRw HO_3))) (Kd.R_lt (aRw HO116))) (below_size bB))
                   replace HO_3 := aE HO_3 ho27 hb
                   replace HO116 := aE HO116 ho27 hb
                   replace HR110 := aC HR110 hb
                   replace HR123 := aC HR123 hb
                   replace HB := aB HB hb
                   clear hb ho27
                   refine hK.out _ _ trivial (fun hHeld => ?_)
                   clear hK K
                   refine norm_ (a' := ?_) ?_ ?_
                   rotate_left
                   ·show Act.put _ (some 32) _ = _
                    simp only [Act.put, List.setIfInBounds_toArray, List.set_cons_zero, List.set_cons_succ, i64_w, i32_w]
                    rfl
                   refine one_ (i := 4) (N := some 36) #[true, true, true, true, true, true, true, false, true, true, true, false, false] rfl rfl (one_of HT_.out (by kernel_rfl)) (by decide) (fun K hK => ?_)
                   refine Kd.R_append_rows_step (Kd.int .i64) (w0 := w) w.heap.size (by rfl) (.tmp 32) (.tmp 35) 46 3 (.int .i64 0) 8 rfl Try.underlying46 info3 rfl (by decide) (by omega) v105 y104 y107 _ _ _ (fun k_ => some k_ ≠ (.slice (some ad101) x3_1.length co20 : Value).ownBlock ∧ some k_ ≠ (v115 : Value).ownBlock) (fun _ => False) rfl rfl ?aO ?aR (fun _ _ h => h) (fun _ h => h.elim) ?aF ?aB ?aS ?aL ?_
                   (case aR => exact aCw HR110)
                   (case aB => exact bB)
                   (case aF => exact (fun k_ hk => ⟨Kd.fresh' (Kd.R_lt (aRw HO_3)) k_ hk, Kd.fresh' (Kd.R_lt (aRw HO116)) k_ hk⟩))
                   (case aO => exact (by (with_reducible repeat (first | apply Kd.R_alloc | apply Kd.R_drewN | apply Kd.R_drew)); exact Kd.R_mono HO106.out bK))
                   (case aS => exact (below_size bB))
                   (case aL => have := LMc14.out; omega)
                   intro v112 w28 ho hb hg hat
                   rw [← Ny111.out] at ho
                   replace HO116 := Aside0.mk (Kd.R_after (ok := (fun k_ => some k_ ≠ (.slice (some ad101) x3_1.length co20 : Value).ownBlock)) (by (with_reducible repeat (first | apply Kd.R_alloc | apply Kd.R_drewN | apply Kd.R_drew)); exact Kd.R_mono HO116.out bK) hg hat)
                   replace HB := Aside0.mk hb
                   replace HR110 := Aside0.mk ((show Kd.C (Kd.int .i64) w28 (some ad101) y107.length y107 from by rw [Ny107.out]; exact Kd.C_take (m := (x5_2 : Int).toNat) ((Kd.R_reads' (Kd.R_after (ok := (fun k_ => some k_ ≠ (v115 : Value).ownBlock)) (by (with_reducible repeat (first | apply Kd.R_alloc | apply Kd.R_drewN | apply Kd.R_drew)); exact Kd.R_mono HO_3.out bK) hg hat)).2.2) KL22.out))
                   replace HR123 := Aside0.mk ((show Kd.C (Kd.int .i64) w28 A23 y120.length y120 from by rw [Ny120.out, KA23.out]; exact Kd.C_drop (m := (x5_2 : Int).toNat) (c := co20) ((Kd.R_reads' (Kd.R_after (ok := (fun k_ => some k_ ≠ (v115 : Value).ownBlock)) (by (with_reducible repeat (first | apply Kd.R_alloc | apply Kd.R_drewN | apply Kd.R_drew)); exact Kd.R_mono HO_3.out bK) hg hat)).2.2) KL23.out ((Kd.R_reads' (Kd.R_after (ok := (fun k_ => some k_ ≠ (v115 : Value).ownBlock)) (by (with_reducible repeat (first | apply Kd.R_alloc | apply Kd.R_drewN | apply Kd.R_drew)); exact Kd.R_mono HO_3.out bK) hg hat)).2.1)))
                   replace HO_3 := Aside0.mk (Kd.R_after (ok := (fun k_ => some k_ ≠ (v115 : Value).ownBlock)) (by (with_reducible repeat (first | apply Kd.R_alloc | apply Kd.R_drewN | apply Kd.R_drew)); exact Kd.R_mono HO_3.out bK) hg hat)
                   have HO113 := Aside0.mk ho
                   clear HO106
                   clear ho hb hg hat
                   refine hK.out _ _ trivial (fun hHeld => ?_)
                   clear hK K
                   refine norm_ (a' := ?_) ?_ ?_
                   rotate_left
                   ·show Act.put _ (some 36) _ = _
                    simp only [Act.put, List.setIfInBounds_toArray, List.set_cons_zero, List.set_cons_succ, i64_w, i32_w]
                    rfl
                   exact norm_ (by simp only [putAll, Act.put, List.setIfInBounds_toArray, List.set_cons_zero, List.set_cons_succ]) (hCont (v105, v112, v115) _ ⟨(by (with_reducible repeat (first | apply Kd.R_alloc | apply Kd.R_drewN | apply Kd.R_drew)); exact Kd.R_mono HO113.out bK), (by (with_reducible repeat (first | apply Kd.R_alloc | apply Kd.R_drewN | apply Kd.R_drew)); exact Kd.R_mono HO116.out bK), (by (with_reducible repeat (first | apply Kd.R_alloc | apply Kd.R_drewN | apply Kd.R_drew)); exact Kd.R_mono HO_3.out bK), bB⟩)
                 rintro ⟨v105, v112, v115⟩ w29 ⟨h0_, h1_, h2_, h3_⟩
                 have n0_ : Aside0 (Kd.R (Kd.int .i64) 3 w29 w.heap.size (fun k_ => some k_ ≠ (v115 : Value).ownBlock ∧ some k_ ≠ (.slice (some ad101) x3_1.length co20 : Value).ownBlock) v112 y111) := ⟨h0_⟩
                 have n1_ : Aside0 (Kd.R (Kd.int .i64) 3 w29 w.heap.size (fun k_ => some k_ ≠ (v112 : Value).ownBlock ∧ some k_ ≠ (.slice (some ad101) x3_1.length co20 : Value).ownBlock) v115 y114) := ⟨h1_⟩
                 have n2_ : Aside0 (Kd.R (Kd.int .i64) 3 w29 w.heap.size (fun k_ => some k_ ≠ (v112 : Value).ownBlock ∧ some k_ ≠ (v115 : Value).ownBlock) (.slice (some ad101) x3_1.length co20) x3_1) := ⟨h2_⟩
                 have n3_ : Aside0 (Below w.heap.size w w29) := ⟨h3_⟩
                 clear HO_3
                 clear HB
                 clear h0_ h1_ h2_ h3_
                 have HO113 := n0_
                 have HO116 := n1_
                 have HO_3 := n2_
                 have HB := n3_
                 clear n0_ n1_ n2_ n3_
                 have hHeld := trivial
                 obtain ⟨Ao31, co31, eo31⟩ := Kd.R_slice HO116.out
                 (first | subst eo31 | (injection eo31 with f1_ f2_ f3_; have f4_ := f1_.symm; have f5_ := f3_.symm; clear f1_ f2_ f3_; subst f4_; subst f5_))
                 refine norm_ (a' := ?_) ?_ ?_
                 rotate_left
                 ·simp only [putAll, Act.put, List.setIfInBounds_toArray, List.set_cons_zero, List.set_cons_succ]
                  rfl
                 refine one_ (i := 7) (N := some 39) #[true, true, true, true, true, true, true, true, true, true, true, false, false] rfl rfl (one_of HT_.out (by kernel_rfl)) (by decide) (fun K hK => ?_)
                 refine Kd.R_append_rows_step (Kd.int .i64) (w0 := w) w.heap.size (by rfl) (.tmp 36) (.tmp 38) 46 3 (.int .i64 0) 8 rfl Try.underlying46 info3 rfl (by decide) (by omega) v112 y111 y114 _ _ _ (fun k_ => some k_ ≠ (.slice (some ad101) x3_1.length co20 : Value).ownBlock ∧ some k_ ≠ ob Ao31 y114 co31) (fun _ => False) rfl rfl ?aO ?aR (fun _ _ h => h) (fun _ h => h.elim) ?aF ?aB ?aS ?aL ?_
                 (case aR => exact sW (Kd.R_reads' HO116.out).2.2)
                 (case aB => exact bB)
                 (case aF => exact (fun k_ hk => ⟨Kd.fresh' (Kd.R_lt (aRw HO_3)) k_ hk, Kd.fresh' (Kd.R_lt (aRw HO116)) k_ hk⟩))
                 (case aO => exact (by (with_reducible repeat (first | apply Kd.R_alloc | apply Kd.R_drewN | apply Kd.R_drew)); exact Kd.R_mono HO113.out bK))
                 (case aS => exact (below_size bB))
                 (case aL => have := LMc15.out; omega)
                 intro v118 w30 ho hb hg hat
                 rw [← Ny117.out] at ho
                 replace HO_3 := Aside0.mk (Kd.R_after (ok := (fun k_ => some k_ ≠ ob Ao31 y114 co31)) (by (with_reducible repeat (first | apply Kd.R_alloc | apply Kd.R_drewN | apply Kd.R_drew)); exact Kd.R_mono HO_3.out bK) hg hat)
                 replace HO116 := Aside0.mk (Kd.R_after (ok := (fun k_ => some k_ ≠ (.slice (some ad101) x3_1.length co20 : Value).ownBlock)) (by (with_reducible repeat (first | apply Kd.R_alloc | apply Kd.R_drewN | apply Kd.R_drew)); exact Kd.R_mono HO116.out bK) hg hat)
                 replace HB := Aside0.mk hb
                 have HO119 := Aside0.mk ho
                 clear HO113
                 clear ho hb hg hat
                 refine hK.out _ _ trivial (fun hHeld => ?_)
                 clear hK K
                 refine norm_ (a' := ?_) ?_ ?_
                 rotate_left
                 ·show Act.put _ (some 39) _ = _
                  simp only [Act.put, List.setIfInBounds_toArray, List.set_cons_zero, List.set_cons_succ, i64_w, i32_w]
                  rfl
                 refine one_ (i := 11) (N := some 43) #[true, true, true, true, true, true, true, true, true, true, true, true, false] rfl rfl (one_of HT_.out (by kernel_rfl)) (by decide) (fun K hK => ?_)
                 refine Kd.R_append_rows_step (Kd.int .i64) (w0 := w) w.heap.size (by rfl) (.tmp 39) (.tmp 42) 46 3 (.int .i64 0) 8 rfl Try.underlying46 info3 rfl (by decide) (by omega) v118 y117 y120 _ _ _ (fun k_ => some k_ ≠ (.slice (some ad101) x3_1.length co20 : Value).ownBlock ∧ some k_ ≠ ob Ao31 y114 co31) (fun _ => False) rfl rfl ?aO ?aR (fun _ _ h => h) (fun _ h => h.elim) ?aF ?aB ?aS ?aL ?_
                 (case aR => exact (show Kd.C (Kd.int .i64) _ A23 y120.length y120 from by rw [Ny120.out, KA23.out]; refine Kd.C_drop (m := (x5_2 : Int).toNat) (c := co20) ?_ KL23.out ((Kd.R_reads' HO_3.out).2.1); refine (Kd.R_reads' (e := 3) (base := w.heap.size) (ok := fun k_ => (some k_ ≠ ob Ao31 y114 co31 ∧ some k_ ≠ (v118 : Value).ownBlock)) (n := x3_1.length) (c := co20) ?_).2.2; exact (aRw HO_3)))
                 (case aB => exact bB)
                 (case aF => exact (fun k_ hk => ⟨Kd.fresh' (Kd.R_lt (aRw HO_3)) k_ hk, Kd.fresh' (Kd.R_lt (aRw HO116)) k_ hk⟩))
                 (case aO => exact (aRw HO119))
                 (case aS => exact (below_size bB))
                 (case aL => have := LMc18.out; omega)
                 intro v125 w32 ho hb hg hat
                 rw [← Ny124.out] at ho
                 replace HO_3 := Aside0.mk (Kd.R_after (ok := (fun k_ => some k_ ≠ ob Ao31 y114 co31)) (aRw HO_3) hg hat)
                 replace HO116 := Aside0.mk (Kd.R_after (ok := (fun k_ => some k_ ≠ (.slice (some ad101) x3_1.length co20 : Value).ownBlock)) (aRw HO116) hg hat)
                 replace HB := Aside0.mk hb
                 have HO126 := Aside0.mk ho
                 clear HO119
                 clear ho hb hg hat
                 refine hK.out _ _ trivial (fun hHeld => ?_)
                 clear hK K
                 refine norm_ (a' := ?_) ?_ ?_
                 rotate_left
                 ·show Act.put _ (some 43) _ = _
                  simp only [Act.put, List.setIfInBounds_toArray, List.set_cons_zero, List.set_cons_succ, i64_w, i32_w]
                  rfl
                 refine pV 12 3 rfl rfl ?_
                 refine done_ (done_of HT_.out (by kernel_rfl)) ?_
                 try go_wp2
                 go_roundg k2
                 case measure => have := HK1.out; have := HK2.out; omega
                 case rel => exact ⟨(y124), (wrap64 (x4_1 + 1)), bS, H', ⟨by have := HK1.out; have := HK2.out; omega⟩, ⟨by (with_reducible repeat (first | apply Kd.R_alloc | apply Kd.R_drewN | apply Kd.R_drew)); exact Kd.R_mono HO126.out (fun _ hk => trivial)⟩, ⟨bB⟩⟩
                ·rw [if_neg c18] at H
                 exact absurd H (by simp)
               ·rw [if_neg c15] at H
                exact absurd H (by simp)
              ·rw [if_neg c14] at H
               exact absurd H (by simp)
             ·rw [if_neg c13] at H
              exact absurd H (by simp)
           ·rw [if_neg c8] at H
            exact absurd H (by simp)
          ·rw [if_neg c7] at H
           exact absurd H (by simp)
         ·rw [if_neg c6] at H
          exact absurd H (by simp)
        ·rw [if_neg c5] at H
         exact absurd H (by simp)
       ·rw [if_neg c4] at H
        exact absurd H (by simp)
      ·rw [if_neg c3] at H
       have c3b0 : decide (x5_2 < (x3_1.length : Int)) = false := decide_eq_false c3
       clear c3
       obtain ⟨y127, hy127⟩ : ∃ y_ : List Int, y_ = (([] : List Int)) := ⟨_, rfl⟩
       replace H : (if 0 ≤ x5_2 then (if x5_2 ≤ (x3_1.length : Int) then ((some (x3_1.take (x5_2 : Int).toNat : List Int)).bind fun y130 => (if y127.length + y130.length < 17592186044416 then ((some (y127 ++ y130 : List Int)).bind fun y134 => ((some (([x4_1] : List Int) : List Int)).bind fun y137 => (if y134.length + y137.length < 17592186044416 then ((some (y134 ++ y137 : List Int)).bind fun y140 => ((some (x3_1.drop (x5_2 : Int).toNat : List Int)).bind fun y143 => (if y140.length + y143.length < 17592186044416 then (ferruleref08_Order.l0 k2 l0 (y140 ++ y143) (wrap64 (x4_1 + 1))) else (none)))) else (none)))) else (none))) else (none)) else (none)) = some r := by first | (rw [hy127]; with_reducible exact H) | (have H2_ := (Option.bind_some _ _).symm.trans H; rw [hy127]; with_reducible exact H2_) | (have H2_ := (Option.bind_some _ _).symm.trans H; with_reducible exact H2_) | with_reducible exact H | (rw [hy127]; exact H) | exact H
       have Ny127 := Aside0.mk hy127
       clear hy127
       by_cases c33 : 0 ≤ x5_2
       ·rw [if_pos c33] at H
        have c33b0 := eq_true c33
        have c33b1 : decide (0 ≤ x5_2) = true := decide_eq_true c33
        clear c33
        by_cases c34 : x5_2 ≤ (x3_1.length : Int)
        ·rw [if_pos c34] at H
         have c34b0 := eq_true c34
         have c34b1 : decide (x5_2 ≤ (x3_1.length : Int)) = true := decide_eq_true c34
         clear c34
         obtain ⟨y130, hy130⟩ : ∃ y_ : List Int, y_ = (x3_1.take (x5_2 : Int).toNat) := ⟨_, rfl⟩
         replace H : (if y127.length + y130.length < 17592186044416 then ((some (y127 ++ y130 : List Int)).bind fun y134 => ((some (([x4_1] : List Int) : List Int)).bind fun y137 => (if y134.length + y137.length < 17592186044416 then ((some (y134 ++ y137 : List Int)).bind fun y140 => ((some (x3_1.drop (x5_2 : Int).toNat : List Int)).bind fun y143 => (if y140.length + y143.length < 17592186044416 then (ferruleref08_Order.l0 k2 l0 (y140 ++ y143) (wrap64 (x4_1 + 1))) else (none)))) else (none)))) else (none)) = some r := by first | (rw [hy130]; with_reducible exact H) | (have H2_ := (Option.bind_some _ _).symm.trans H; rw [hy130]; with_reducible exact H2_) | (have H2_ := (Option.bind_some _ _).symm.trans H; with_reducible exact H2_) | with_reducible exact H | (rw [hy130]; exact H) | exact H
         have Ny130 := Aside0.mk hy130
         clear hy130
         by_cases c35 : y127.length + y130.length < 17592186044416
         ·rw [if_pos c35] at H
          have LMc35 := Aside0.mk c35
          clear c35
          obtain ⟨y134, hy134⟩ : ∃ y_ : List Int, y_ = (y127 ++ y130) := ⟨_, rfl⟩
          replace H : ((some (([x4_1] : List Int) : List Int)).bind fun y137 => (if y134.length + y137.length < 17592186044416 then ((some (y134 ++ y137 : List Int)).bind fun y140 => ((some (x3_1.drop (x5_2 : Int).toNat : List Int)).bind fun y143 => (if y140.length + y143.length < 17592186044416 then (ferruleref08_Order.l0 k2 l0 (y140 ++ y143) (wrap64 (x4_1 + 1))) else (none)))) else (none))) = some r := by first | (rw [hy134]; with_reducible exact H) | (have H2_ := (Option.bind_some _ _).symm.trans H; rw [hy134]; with_reducible exact H2_) | (have H2_ := (Option.bind_some _ _).symm.trans H; with_reducible exact H2_) | with_reducible exact H | (rw [hy134]; exact H) | exact H
          have Ny134 := Aside0.mk hy134
          clear hy134
          obtain ⟨y137, hy137⟩ : ∃ y_ : List Int, y_ = (([x4_1] : List Int)) := ⟨_, rfl⟩
          replace H : (if y134.length + y137.length < 17592186044416 then ((some (y134 ++ y137 : List Int)).bind fun y140 => ((some (x3_1.drop (x5_2 : Int).toNat : List Int)).bind fun y143 => (if y140.length + y143.length < 17592186044416 then (ferruleref08_Order.l0 k2 l0 (y140 ++ y143) (wrap64 (x4_1 + 1))) else (none)))) else (none)) = some r := by first | (rw [hy137]; with_reducible exact H) | (have H2_ := (Option.bind_some _ _).symm.trans H; rw [hy137]; with_reducible exact H2_) | (have H2_ := (Option.bind_some _ _).symm.trans H; with_reducible exact H2_) | with_reducible exact H | (rw [hy137]; exact H) | exact H
          have Ny137 := Aside0.mk hy137
          clear hy137
          by_cases c36 : y134.length + y137.length < 17592186044416
          ·rw [if_pos c36] at H
           have LMc36 := Aside0.mk c36
           clear c36
           obtain ⟨y140, hy140⟩ : ∃ y_ : List Int, y_ = (y134 ++ y137) := ⟨_, rfl⟩
           replace H : ((some (x3_1.drop (x5_2 : Int).toNat : List Int)).bind fun y143 => (if y140.length + y143.length < 17592186044416 then (ferruleref08_Order.l0 k2 l0 (y140 ++ y143) (wrap64 (x4_1 + 1))) else (none))) = some r := by first | (rw [hy140]; with_reducible exact H) | (have H2_ := (Option.bind_some _ _).symm.trans H; rw [hy140]; with_reducible exact H2_) | (have H2_ := (Option.bind_some _ _).symm.trans H; with_reducible exact H2_) | with_reducible exact H | (rw [hy140]; exact H) | exact H
           have Ny140 := Aside0.mk hy140
           clear hy140
           have c37b0 := eq_true (oD : 0 ≤ x5_2)
           have c38b0 := eq_true (oD : x5_2 ≤ (x3_1.length : Int))
           obtain ⟨y143, hy143⟩ : ∃ y_ : List Int, y_ = (x3_1.drop (x5_2 : Int).toNat) := ⟨_, rfl⟩
           replace H : (if y140.length + y143.length < 17592186044416 then (ferruleref08_Order.l0 k2 l0 (y140 ++ y143) (wrap64 (x4_1 + 1))) else (none)) = some r := by first | (rw [hy143]; with_reducible exact H) | (have H2_ := (Option.bind_some _ _).symm.trans H; rw [hy143]; with_reducible exact H2_) | (have H2_ := (Option.bind_some _ _).symm.trans H; with_reducible exact H2_) | with_reducible exact H | (rw [hy143]; exact H) | exact H
           have Ny143 := Aside0.mk hy143
           clear hy143
           by_cases c39 : y140.length + y143.length < 17592186044416
           ·rw [if_pos c39] at H
            have LMc39 := Aside0.mk c39
            clear c39
            obtain ⟨y147, hy147⟩ : ∃ y_ : List Int, y_ = (y140 ++ y143) := ⟨_, rfl⟩
            replace H : (ferruleref08_Order.l0 k2 l0 y147 (wrap64 (x4_1 + 1))) = some r := by first | (rw [hy147]; with_reducible exact H) | (have H2_ := (Option.bind_some _ _).symm.trans H; rw [hy147]; with_reducible exact H2_) | (have H2_ := (Option.bind_some _ _).symm.trans H; with_reducible exact H2_) | with_reducible exact H | (rw [hy147]; exact H) | exact H
            have Ny147 := Aside0.mk hy147
            clear hy147
            have H' := Aside0.mk H
            clear H
            try go_wp2
            replace HO_3 := Aside0.mk (Kd.R_drew HO_3.out)
            replace HB := Aside0.mk (below_drew1 HB.out)
            obtain ⟨Ao41, co41, eo41⟩ := Kd.R_slice HO_3.out
            (first | subst eo41 | (injection eo41 with f1_ f2_ f3_; have f4_ := f1_.symm; have f5_ := f3_.symm; clear f1_ f2_ f3_; subst f4_; subst f5_))
            refine start_ (n := 18) (S := fun w' => True) (ds := []) #[false, false, false, false, false, false, false, false, false, false, false, false, false, false, false, false, false, false] (by kernel_rfl) rfl rfl trivial (fun hHeld => ?_); refine with_tabW ferruleref08_Order.tab6 ferruleref08_Order.bits6 (fun HT_ HW_ => ?_)
            generalize wr.drew = w40 at HO_3 HB hHeld ⊢
            refine pV 0 12 rfl rfl ?_
            refine pV 1 13 rfl rfl ?_
            refine pV 2 14 rfl rfl ?_
            refine pV 3 15 rfl rfl ?_
            refine pV 4 16 rfl rfl ?_
            refine pU 5 17 rfl rfl ?_
            refine pU 6 18 rfl rfl ?_
            refine pU 7 19 rfl rfl ?_
            refine pU 8 20 rfl rfl ?_
            refine pU 9 21 rfl rfl ?_
            refine pU 10 22 rfl rfl ?_
            refine pU 11 23 rfl rfl ?_
            refine pU 12 24 rfl rfl ?_
            refine pU 13 25 rfl rfl ?_
            refine pU 14 26 rfl rfl ?_
            refine pU 15 27 rfl rfl ?_
            refine pU 16 28 rfl rfl ?_
            refine pV 17 29 rfl rfl ?_
            refine done_ (done_of HT_.out (by kernel_rfl)) ?_
            try go_wp2
            replace HO_3 := Aside0.mk (Kd.R_drew HO_3.out)
            replace HB := Aside0.mk (below_drew1 HB.out)
            have q43 : (x5_2 : Int) ≤ ((x3_1.length : Int) : Int) := oD
            obtain ⟨i043, hi043, _, hsz43, _⟩ := info_parts info3
            have hroom43 : x3_1.length ≤ co41 := (Kd.R_reads' HO_3.out).2.1
            have hC43 : Kd.C (Kd.int .i64) _ Ao41 x3_1.length x3_1 := (Kd.R_reads' HO_3.out).2.2
            have hcut43 := cut_to (P := Try.prog) 46 3 .i64 Try.underlying46 hi043 Ao41 x3_1.length co41 x5_2 oD q43 hroom43
            have hr43 := Kd.C_take (m := (x5_2 : Int).toNat) hC43 (by omega)
            have hy43 : y130.length = (x5_2 : Int).toNat := (by rw [Ny130.out, List.length_take]; omega)
            rw [← Ny130.out] at hr43
            rw [← hy43] at hcut43
            have HR133 := Aside0.mk hr43
            have HC133 := Aside0.mk (show y130.length ≤ co41 from by omega)
            clear hr43 hC43 hroom43 hi043 hsz43
            have KY43 := Aside0.mk hy43
            clear hy43
            have KL43 := Aside0.mk (show (x5_2 : Int).toNat ≤ x3_1.length from by omega)
            replace q43 := eq_true q43
            have q44 : (x5_2 : Int) ≤ ((x3_1.length : Int) : Int) := oD
            obtain ⟨i044, hi044, _, hsz44, _⟩ := info_parts info3
            have hroom44 : x3_1.length ≤ co41 := (Kd.R_reads' HO_3.out).2.1
            have hC44 : Kd.C (Kd.int .i64) _ Ao41 x3_1.length x3_1 := (Kd.R_reads' HO_3.out).2.2
            have q044 : (0 : Int) ≤ (x5_2 : Int) := oD
            have hcut44 := cut_from (P := Try.prog) 46 3 .i64 Try.underlying46 hi044 1 hsz44 Ao41 x3_1.length co41 x5_2 q044 q44
            have hr44 := Kd.C_drop (m := (x5_2 : Int).toNat) (c := co41) hC44 (by omega) hroom44
            obtain ⟨A44, hA44⟩ : ∃ A1, A1 = (if co41 = (x5_2 : Int).toNat then Ao41 else (Ao41 : Option Addr).map (·.add ((x5_2 : Int).toNat * 1))) := ⟨_, rfl⟩
            obtain ⟨c44, hc44⟩ : ∃ c1, c1 = co41 - (x5_2 : Int).toNat := ⟨_, rfl⟩
            have hy44 : y143.length = x3_1.length - (x5_2 : Int).toNat := (by rw [Ny143.out, List.length_drop] <;> omega)
            rw [show (x3_1).drop (x5_2 : Int).toNat = y143 from Ny143.out.symm] at hr44
            replace hr44 : Kd.C (Kd.int .i64) _ A44 y143.length y143 := (by rw [hA44]; exact hr44)
            rw [← hy44, ← hA44, ← hc44] at hcut44
            have HR146 := Aside0.mk hr44
            have HC146 := Aside0.mk (show y143.length ≤ c44 from by rw [hy44, hc44]; exact Nat.sub_le_sub_right hroom44 _)
            clear hr44 hC44 hroom44 hi044 hsz44 hc44
            have KY44 := Aside0.mk hy44
            have KA44 := Aside0.mk hA44
            clear hy44 hA44
            have KL44 := Aside0.mk (show (x5_2 : Int).toNat ≤ x3_1.length from by omega)
            replace q44 := eq_true q44
            refine start_ (n := 13) (S := fun w' => True) (ds := []) #[false, false, false, false, false, false, false, false, false, false, false, false, false] (by kernel_rfl) rfl rfl trivial (fun hHeld => ?_); refine with_tabW ferruleref08_Order.tab8 ferruleref08_Order.bits8 (fun HT_ HW_ => ?_)
            generalize w40.drew = w42 at HO_3 HB HR133 HR146 hHeld ⊢
            refine pV 1 33 rfl rfl ?_
            refine pV 2 34 rfl rfl ?_
            refine pV 3 35 rfl rfl ?_
            refine pV 5 37 rfl rfl ?_
            refine pV 8 40 rfl rfl ?_
            refine pV 9 41 rfl rfl ?_
            refine pV 10 42 rfl rfl ?_
            refine join_ (σ := Value × Value × Value) 3 #[true, true, true, true, true, true, true, false, true, true, true, false, false] (fun s_ => [(32, s_.1), (36, s_.2.1), (38, s_.2.2)]) (fun s_ w' => (Kd.R (Kd.int .i64) 3 w' w.heap.size (fun k_ => some k_ ≠ (s_.2.2 : Value).ownBlock ∧ some k_ ≠ ob Ao41 x3_1 co41) s_.2.1 y134) ∧ (Kd.R (Kd.int .i64) 3 w' w.heap.size (fun k_ => some k_ ≠ (s_.2.1 : Value).ownBlock ∧ some k_ ≠ ob Ao41 x3_1 co41) s_.2.2 y137) ∧ (Kd.R (Kd.int .i64) 3 w' w.heap.size (fun k_ => some k_ ≠ (s_.2.1 : Value).ownBlock ∧ some k_ ≠ (s_.2.2 : Value).ownBlock) (.slice Ao41 x3_1.length co41) x3_1) ∧ (Below w.heap.size w w')) ?_ ?_
            rotate_left
            ·intro hCont
             refine two_ (i := 0) (j := 6) (Ni := some 32) (Nj := some 38) #[true, true, true, true, false, true, false, false, true, true, true, false, false] #[false, true, true, true, false, true, true, false, true, true, true, false, false] rfl rfl rfl rfl (two_of HT_.out (by kernel_rfl)) (by decide) (by decide) (fun K hK => ?_) (fun K hK => ?_)
             ·skip
              refine Kd.R_lit_step (Kd.int .i64) _ 3 ?hg (N := 32) ?hd (xs := ([] : List Int)) (inner := []) (ok := fun _ => True) (okp := fun _ => True) ?hr ?hp (fun _ hk => hk) trivial (Below.refl _ _) (Nat.le_refl _) (by simp) ?_; (case hd => rfl); (case hg => rfl); (case hr => first | (go_simp; done) | (go_simp; rfl)); (case hp => exact (Reps.none _ _))
              intro v128 w45 ho46 hb hg_ hnew_
              clear hg_ hnew_
              (first | rw [← Ny127.out] at ho46 | (simp only [Int.reduceToNat] at ho46; rw [← Ny127.out] at ho46))
              have HO129 := aN ho46 HO_3 HB
              replace HO_3 := aE HO_3 ho46 hb
              replace HR133 := aC HR133 hb
              replace HR146 := aC HR146 hb
              replace HB := aB HB hb
              clear hb ho46
              refine hK.out _ _ trivial (fun hHeld => ?_)
              clear hK K
              refine norm_ (a' := ?_) ?_ ?_
              rotate_left
              ·show Act.put _ (some 32) _ = _
               simp only [Act.put, List.setIfInBounds_toArray, List.set_cons_zero, List.set_cons_succ, i64_w, i32_w]
               rfl
              refine two_ (i := 4) (j := 6) (Ni := some 36) (Nj := some 38) #[true, true, true, true, true, true, false, false, true, true, true, false, false] #[true, true, true, true, false, true, true, false, true, true, true, false, false] rfl rfl rfl rfl (two_of HT_.out (by kernel_rfl)) (by decide) (by decide) (fun K hK => ?_) (fun K hK => ?_)
              ·skip
               refine Kd.R_append_rows_step (Kd.int .i64) (w0 := w) w.heap.size (by rfl) (.tmp 32) (.tmp 35) 46 3 (.int .i64 0) 8 rfl Try.underlying46 info3 rfl (by decide) (by omega) v128 y127 y130 _ _ _ (fun k_ => some k_ ≠ ob Ao41 x3_1 co41) (fun _ => False) rfl rfl ?aO ?aR (fun _ _ h => h) (fun _ h => h.elim) ?aF ?aB ?aS ?aL ?_
               (case aR => exact aCw HR133)
               (case aB => exact bB)
               (case aF => exact (fun k_ hk => Kd.fresh' (Kd.R_lt (aRw HO_3)) k_ hk))
               (case aO => exact (by (with_reducible repeat (first | apply Kd.R_alloc | apply Kd.R_drewN | apply Kd.R_drew)); exact Kd.R_mono HO129.out (fun _ hk => hk.2)))
               (case aS => exact (below_size bB))
               (case aL => have := LMc35.out; omega)
               intro v135 w47 ho hb hg hat
               rw [← Ny134.out] at ho
               replace HB := Aside0.mk hb
               replace HR133 := Aside0.mk ((show Kd.C (Kd.int .i64) w47 Ao41 y130.length y130 from by rw [Ny130.out]; exact Kd.C_take (m := (x5_2 : Int).toNat) ((Kd.R_reads' (Kd.R_after (ok := (fun _ => True)) (aRw HO_3) hg hat)).2.2) KL43.out))
               replace HR146 := Aside0.mk ((show Kd.C (Kd.int .i64) w47 A44 y143.length y143 from by rw [Ny143.out, KA44.out]; exact Kd.C_drop (m := (x5_2 : Int).toNat) (c := co41) ((Kd.R_reads' (Kd.R_after (ok := (fun _ => True)) (aRw HO_3) hg hat)).2.2) KL44.out ((Kd.R_reads' (Kd.R_after (ok := (fun _ => True)) (aRw HO_3) hg hat)).2.1)))
               replace HO_3 := Aside0.mk (Kd.R_after (ok := (fun _ => True)) (aRw HO_3) hg hat)
               have HO136 := Aside0.mk ho
               clear HO129
               clear ho hb hg hat
               refine hK.out _ _ trivial (fun hHeld => ?_)
               clear hK K
               refine norm_ (a' := ?_) ?_ ?_
               rotate_left
               ·show Act.put _ (some 36) _ = _
                simp only [Act.put, List.setIfInBounds_toArray, List.set_cons_zero, List.set_cons_succ, i64_w, i32_w]
                rfl
               refine one_ (i := 6) (N := some 38) #[true, true, true, true, true, true, true, false, true, true, true, false, false] rfl rfl (one_of HT_.out (by kernel_rfl)) (by decide) (fun K hK => ?_)
               refine Kd.R_lit_step (Kd.int .i64) _ 3 ?hg (N := 38) ?hd (xs := ([x4_1] : List Int)) (inner := [.int .i64 x4_1]) (ok := fun _ => True) (okp := fun _ => True) ?hr ?hp (fun _ hk => hk) trivial (Below.refl _ _) (Nat.le_refl _) (by simp) ?_; (case hd => rfl); (case hg => rfl); (case hr => first | (go_simp; done) | (go_simp; rfl)); (case hp => exact (Reps.one (show Kd.M (Kd.int .i64) _ _ _ x4_1 [.int .i64 x4_1] from rfl) (Reps.none _ _)))
               intro v138 w48 ho49 hb hg_ hnew_
               clear hg_ hnew_
               (first | rw [← Ny137.out] at ho49 | (simp only [Int.reduceToNat] at ho49; rw [← Ny137.out] at ho49))
               have HO139 := Aside0.mk (Kd.R_lower (Kd.R_new' (Kd.R_new' ho49 (Kd.R_lt (aRw HO_3))) (Kd.R_lt (aRw HO136))) (below_size bB))
               replace HO_3 := aE HO_3 ho49 hb
               replace HO136 := aE HO136 ho49 hb
               replace HR133 := aC HR133 hb
               replace HR146 := aC HR146 hb
               replace HB := aB HB hb
               clear hb ho49
               refine hK.out _ _ trivial (fun hHeld => ?_)
               clear hK K
               refine norm_ (a' := ?_) ?_ ?_
               rotate_left
               ·show Act.put _ (some 38) _ = _
                simp only [Act.put, List.setIfInBounds_toArray, List.set_cons_zero, List.set_cons_succ, i64_w, i32_w]
                rfl
               exact norm_ (by simp only [putAll, Act.put, List.setIfInBounds_toArray, List.set_cons_zero, List.set_cons_succ]) (hCont (v128, v135, v138) _ ⟨(by (with_reducible repeat (first | apply Kd.R_alloc | apply Kd.R_drewN | apply Kd.R_drew)); exact Kd.R_mono HO136.out bK), (by (with_reducible repeat (first | apply Kd.R_alloc | apply Kd.R_drewN | apply Kd.R_drew)); exact Kd.R_mono HO139.out bK), (by (with_reducible repeat (first | apply Kd.R_alloc | apply Kd.R_drewN | apply Kd.R_drew)); exact Kd.R_mono HO_3.out bK), bB⟩)
              ·skip
               refine Kd.R_lit_step (Kd.int .i64) _ 3 ?hg (N := 38) ?hd (xs := ([x4_1] : List Int)) (inner := [.int .i64 x4_1]) (ok := fun _ => True) (okp := fun _ => True) ?hr ?hp (fun _ hk => hk) trivial (Below.refl _ _) (Nat.le_refl _) (by simp) ?_; (case hd => rfl); (case hg => rfl); (case hr => first | (go_simp; done) | (go_simp; rfl)); (case hp => exact (Reps.one (show Kd.M (Kd.int .i64) _ _ _ x4_1 [.int .i64 x4_1] from rfl) (Reps.none _ _)))
               intro v138 w47 ho48 hb hg_ hnew_
               clear hg_ hnew_
               (first | rw [← Ny137.out] at ho48 | (simp only [Int.reduceToNat] at ho48; rw [← Ny137.out] at ho48))
               have HO139 := Aside0.mk (Kd.R_lower (Kd.R_new' (Kd.R_new' ho48 (Kd.R_lt (aRw HO_3))) (Kd.R_lt (aRw HO129))) (below_size bB))
               replace HO_3 := aE HO_3 ho48 hb
               replace HO129 := aE HO129 ho48 hb
               replace HR133 := aC HR133 hb
               replace HR146 := aC HR146 hb
               replace HB := aB HB hb
               clear hb ho48
               refine hK.out _ _ trivial (fun hHeld => ?_)
               clear hK K
               refine norm_ (a' := ?_) ?_ ?_
               rotate_left
               ·show Act.put _ (some 38) _ = _
                simp only [Act.put, List.setIfInBounds_toArray, List.set_cons_zero, List.set_cons_succ, i64_w, i32_w]
                rfl
               refine one_ (i := 4) (N := some 36) #[true, true, true, true, true, true, true, false, true, true, true, false, false] rfl rfl (one_of HT_.out (by kernel_rfl)) (by decide) (fun K hK => ?_)
               refine Kd.R_append_rows_step (Kd.int .i64) (w0 := w) w.heap.size (by rfl) (.tmp 32) (.tmp 35) 46 3 (.int .i64 0) 8 rfl Try.underlying46 info3 rfl (by decide) (by omega) v128 y127 y130 _ _ _ (fun k_ => some k_ ≠ ob Ao41 x3_1 co41 ∧ some k_ ≠ (v138 : Value).ownBlock) (fun _ => False) rfl rfl ?aO ?aR (fun _ _ h => h) (fun _ h => h.elim) ?aF ?aB ?aS ?aL ?_
               (case aR => exact aCw HR133)
               (case aB => exact bB)
               (case aF => exact (fun k_ hk => ⟨Kd.fresh' (Kd.R_lt (aRw HO_3)) k_ hk, Kd.fresh' (Kd.R_lt (aRw HO139)) k_ hk⟩))
               (case aO => exact (by (with_reducible repeat (first | apply Kd.R_alloc | apply Kd.R_drewN | apply Kd.R_drew)); exact Kd.R_mono HO129.out bK))
               (case aS => exact (below_size bB))
               (case aL => have := LMc35.out; omega)
               intro v135 w49 ho hb hg hat
               rw [← Ny134.out] at ho
               replace HO139 := Aside0.mk (Kd.R_after (ok := (fun k_ => some k_ ≠ ob Ao41 x3_1 co41)) (by (with_reducible repeat (first | apply Kd.R_alloc | apply Kd.R_drewN | apply Kd.R_drew)); exact Kd.R_mono HO139.out bK) hg hat)
               replace HB := Aside0.mk hb
               replace HR133 := Aside0.mk ((show Kd.C (Kd.int .i64) w49 Ao41 y130.length y130 from by rw [Ny130.out]; exact Kd.C_take (m := (x5_2 : Int).toNat) ((Kd.R_reads' (Kd.R_after (ok := (fun k_ => some k_ ≠ (v138 : Value).ownBlock)) (by (with_reducible repeat (first | apply Kd.R_alloc | apply Kd.R_drewN | apply Kd.R_drew)); exact Kd.R_mono HO_3.out bK) hg hat)).2.2) KL43.out))
               replace HR146 := Aside0.mk ((show Kd.C (Kd.int .i64) w49 A44 y143.length y143 from by rw [Ny143.out, KA44.out]; exact Kd.C_drop (m := (x5_2 : Int).toNat) (c := co41) ((Kd.R_reads' (Kd.R_after (ok := (fun k_ => some k_ ≠ (v138 : Value).ownBlock)) (by (with_reducible repeat (first | apply Kd.R_alloc | apply Kd.R_drewN | apply Kd.R_drew)); exact Kd.R_mono HO_3.out bK) hg hat)).2.2) KL44.out ((Kd.R_reads' (Kd.R_after (ok := (fun k_ => some k_ ≠ (v138 : Value).ownBlock)) (by (with_reducible repeat (first | apply Kd.R_alloc | apply Kd.R_drewN | apply Kd.R_drew)); exact Kd.R_mono HO_3.out bK) hg hat)).2.1)))
               replace HO_3 := Aside0.mk (Kd.R_after (ok := (fun k_ => some k_ ≠ (v138 : Value).ownBlock)) (by (with_reducible repeat (first | apply Kd.R_alloc | apply Kd.R_drewN | apply Kd.R_drew)); exact Kd.R_mono HO_3.out bK) hg hat)
               have HO136 := Aside0.mk ho
               clear HO129
               clear ho hb hg hat
               refine hK.out _ _ trivial (fun hHeld => ?_)
               clear hK K
               refine norm_ (a' := ?_) ?_ ?_
               rotate_left
               ·show Act.put _ (some 36) _ = _
                simp only [Act.put, List.setIfInBounds_toArray, List.set_cons_zero, List.set_cons_succ, i64_w, i32_w]
                rfl
               exact norm_ (by simp only [putAll, Act.put, List.setIfInBounds_toArray, List.set_cons_zero, List.set_cons_succ]) (hCont (v128, v135, v138) _ ⟨(by (with_reducible repeat (first | apply Kd.R_alloc | apply Kd.R_drewN | apply Kd.R_drew)); exact Kd.R_mono HO136.out bK), (by (with_reducible repeat (first | apply Kd.R_alloc | apply Kd.R_drewN | apply Kd.R_drew)); exact Kd.R_mono HO139.out bK), (by (with_reducible repeat (first | apply Kd.R_alloc | apply Kd.R_drewN | apply Kd.R_drew)); exact Kd.R_mono HO_3.out bK), bB⟩)
             ·skip
              refine Kd.R_lit_step (Kd.int .i64) _ 3 ?hg (N := 38) ?hd (xs := ([x4_1] : List Int)) (inner := [.int .i64 x4_1]) (ok := fun _ => True) (okp := fun _ => True) ?hr ?hp (fun _ hk => hk) trivial (Below.refl _ _) (Nat.le_refl _) (by simp) ?_; (case hd => rfl); (case hg => rfl); (case hr => first | (go_simp; done) | (go_simp; rfl)); (case hp => exact (Reps.one (show Kd.M (Kd.int .i64) _ _ _ x4_1 [.int .i64 x4_1] from rfl) (Reps.none _ _)))
              intro v138 w45 ho46 hb hg_ hnew_
              clear hg_ hnew_
              (first | rw [← Ny137.out] at ho46 | (simp only [Int.reduceToNat] at ho46; rw [← Ny137.out] at ho46))
              have HO139 := aN ho46 HO_3 HB
              replace HO_3 := aE HO_3 ho46 hb
              replace HR133 := aC HR133 hb
              replace HR146 := aC HR146 hb
              replace HB := aB HB hb
              clear hb ho46
              refine hK.out _ _ trivial (fun hHeld => ?_)
              clear hK K
              refine norm_ (a' := ?_) ?_ ?_
              rotate_left
              ·show Act.put _ (some 38) _ = _
               simp only [Act.put, List.setIfInBounds_toArray, List.set_cons_zero, List.set_cons_succ, i64_w, i32_w]
               rfl
              refine one_ (i := 0) (N := some 32) #[true, true, true, true, false, true, true, false, true, true, true, false, false] rfl rfl (one_of HT_.out (by kernel_rfl)) (by decide) (fun K hK => ?_)
              refine Kd.R_lit_step (Kd.int .i64) _ 3 ?hg (N := 32) ?hd (xs := ([] : List Int)) (inner := []) (ok := fun _ => True) (okp := fun _ => True) ?hr ?hp (fun _ hk => hk) trivial (Below.refl _ _) (Nat.le_refl _) (by simp) ?_; (case hd => rfl); (case hg => rfl); (case hr => first | (go_simp; done) | (go_simp; rfl)); (case hp => exact (Reps.none _ _))
              intro v128 w47 ho48 hb hg_ hnew_
              clear hg_ hnew_
              (first | rw [← Ny127.out] at ho48 | (simp only [Int.reduceToNat] at ho48; rw [← Ny127.out] at ho48))
              have HO129 := Aside0.mk (Kd.R_lower (Kd.R_new' (Kd.R_new' ho48 (Kd.R_lt (aRw HO_3))) (Kd.R_lt (aRw HO139))) (below_size bB))
              replace HO_3 := aE HO_3 ho48 hb
              replace HO139 := aE HO139 ho48 hb
              replace HR133 := aC HR133 hb
              replace HR146 := aC HR146 hb
              replace HB := aB HB hb
              clear hb ho48
              refine hK.out _ _ trivial (fun hHeld => ?_)
              clear hK K
              refine norm_ (a' := ?_) ?_ ?_
              rotate_left
              ·show Act.put _ (some 32) _ = _
               simp only [Act.put, List.setIfInBounds_toArray, List.set_cons_zero, List.set_cons_succ, i64_w, i32_w]
               rfl
              refine one_ (i := 4) (N := some 36) #[true, true, true, true, true, true, true, false, true, true, true, false, false] rfl rfl (one_of HT_.out (by kernel_rfl)) (by decide) (fun K hK => ?_)
              refine Kd.R_append_rows_step (Kd.int .i64) (w0 := w) w.heap.size (by rfl) (.tmp 32) (.tmp 35) 46 3 (.int .i64 0) 8 rfl Try.underlying46 info3 rfl (by decide) (by omega) v128 y127 y130 _ _ _ (fun k_ => some k_ ≠ ob Ao41 x3_1 co41 ∧ some k_ ≠ (v138 : Value).ownBlock) (fun _ => False) rfl rfl ?aO ?aR (fun _ _ h => h) (fun _ h => h.elim) ?aF ?aB ?aS ?aL ?_
              (case aR => exact aCw HR133)
              (case aB => exact bB)
              (case aF => exact (fun k_ hk => ⟨Kd.fresh' (Kd.R_lt (aRw HO_3)) k_ hk, Kd.fresh' (Kd.R_lt (aRw HO139)) k_ hk⟩))
              (case aO => exact (by (with_reducible repeat (first | apply Kd.R_alloc | apply Kd.R_drewN | apply Kd.R_drew)); exact Kd.R_mono HO129.out bK))
              (case aS => exact (below_size bB))
              (case aL => have := LMc35.out; omega)
              intro v135 w49 ho hb hg hat
              rw [← Ny134.out] at ho
              replace HO139 := Aside0.mk (Kd.R_after (ok := (fun k_ => some k_ ≠ ob Ao41 x3_1 co41)) (by (with_reducible repeat (first | apply Kd.R_alloc | apply Kd.R_drewN | apply Kd.R_drew)); exact Kd.R_mono HO139.out bK) hg hat)
              replace HB := Aside0.mk hb
              replace HR133 := Aside0.mk ((show Kd.C (Kd.int .i64) w49 Ao41 y130.length y130 from by rw [Ny130.out]; exact Kd.C_take (m := (x5_2 : Int).toNat) ((Kd.R_reads' (Kd.R_after (ok := (fun k_ => some k_ ≠ (v138 : Value).ownBlock)) (by (with_reducible repeat (first | apply Kd.R_alloc | apply Kd.R_drewN | apply Kd.R_drew)); exact Kd.R_mono HO_3.out bK) hg hat)).2.2) KL43.out))
              replace HR146 := Aside0.mk ((show Kd.C (Kd.int .i64) w49 A44 y143.length y143 from by rw [Ny143.out, KA44.out]; exact Kd.C_drop (m := (x5_2 : Int).toNat) (c := co41) ((Kd.R_reads' (Kd.R_after (ok := (fun k_ => some k_ ≠ (v138 : Value).ownBlock)) (by (with_reducible repeat (first | apply Kd.R_alloc | apply Kd.R_drewN | apply Kd.R_drew)); exact Kd.R_mono HO_3.out bK) hg hat)).2.2) KL44.out ((Kd.R_reads' (Kd.R_after (ok := (fun k_ => some k_ ≠ (v138 : Value).ownBlock)) (by (with_reducible repeat (first | apply Kd.R_alloc | apply Kd.R_drewN | apply Kd.R_drew)); exact Kd.R_mono HO_3.out bK) hg hat)).2.1)))
              replace HO_3 := Aside0.mk (Kd.R_after (ok := (fun k_ => some k_ ≠ (v138 : Value).ownBlock)) (by (with_reducible repeat (first | apply Kd.R_alloc | apply Kd.R_drewN | apply Kd.R_drew)); exact Kd.R_mono HO_3.out bK) hg hat)
              have HO136 := Aside0.mk ho
              clear HO129
              clear ho hb hg hat
              refine hK.out _ _ trivial (fun hHeld => ?_)
              clear hK K
              refine norm_ (a' := ?_) ?_ ?_
              rotate_left
              ·show Act.put _ (some 36) _ = _
               simp only [Act.put, List.setIfInBounds_toArray, List.set_cons_zero, List.set_cons_succ, i64_w, i32_w]
               rfl
              exact norm_ (by simp only [putAll, Act.put, List.setIfInBounds_toArray, List.set_cons_zero, List.set_cons_succ]) (hCont (v128, v135, v138) _ ⟨(by (with_reducible repeat (first | apply Kd.R_alloc | apply Kd.R_drewN | apply Kd.R_drew)); exact Kd.R_mono HO136.out bK), (by (with_reducible repeat (first | apply Kd.R_alloc | apply Kd.R_drewN | apply Kd.R_drew)); exact Kd.R_mono HO139.out bK), (by (with_reducible repeat (first | apply Kd.R_alloc | apply Kd.R_drewN | apply Kd.R_drew)); exact Kd.R_mono HO_3.out bK), bB⟩)
            rintro ⟨v128, v135, v138⟩ w50 ⟨h0_, h1_, h2_, h3_⟩
            have n0_ : Aside0 (Kd.R (Kd.int .i64) 3 w50 w.heap.size (fun k_ => some k_ ≠ (v138 : Value).ownBlock ∧ some k_ ≠ ob Ao41 x3_1 co41) v135 y134) := ⟨h0_⟩
            have n1_ : Aside0 (Kd.R (Kd.int .i64) 3 w50 w.heap.size (fun k_ => some k_ ≠ (v135 : Value).ownBlock ∧ some k_ ≠ ob Ao41 x3_1 co41) v138 y137) := ⟨h1_⟩
            have n2_ : Aside0 (Kd.R (Kd.int .i64) 3 w50 w.heap.size (fun k_ => some k_ ≠ (v135 : Value).ownBlock ∧ some k_ ≠ (v138 : Value).ownBlock) (.slice Ao41 x3_1.length co41) x3_1) := ⟨h2_⟩
            have n3_ : Aside0 (Below w.heap.size w w50) := ⟨h3_⟩
            clear HO_3
            clear HB
            clear h0_ h1_ h2_ h3_
            have HO136 := n0_
            have HO139 := n1_
            have HO_3 := n2_
            have HB := n3_
            clear n0_ n1_ n2_ n3_
            have hHeld := trivial
            obtain ⟨Ao52, co52, eo52⟩ := Kd.R_slice HO139.out
            (first | subst eo52 | (injection eo52 with f1_ f2_ f3_; have f4_ := f1_.symm; have f5_ := f3_.symm; clear f1_ f2_ f3_; subst f4_; subst f5_))
            refine norm_ (a' := ?_) ?_ ?_
            rotate_left
            ·simp only [putAll, Act.put, List.setIfInBounds_toArray, List.set_cons_zero, List.set_cons_succ]
             rfl
            refine one_ (i := 7) (N := some 39) #[true, true, true, true, true, true, true, true, true, true, true, false, false] rfl rfl (one_of HT_.out (by kernel_rfl)) (by decide) (fun K hK => ?_)
            refine Kd.R_append_rows_step (Kd.int .i64) (w0 := w) w.heap.size (by rfl) (.tmp 36) (.tmp 38) 46 3 (.int .i64 0) 8 rfl Try.underlying46 info3 rfl (by decide) (by omega) v135 y134 y137 _ _ _ (fun k_ => some k_ ≠ ob Ao41 x3_1 co41 ∧ some k_ ≠ ob Ao52 y137 co52) (fun _ => False) rfl rfl ?aO ?aR (fun _ _ h => h) (fun _ h => h.elim) ?aF ?aB ?aS ?aL ?_
            (case aR => exact sW (Kd.R_reads' HO139.out).2.2)
            (case aB => exact bB)
            (case aF => exact (fun k_ hk => ⟨Kd.fresh' (Kd.R_lt (aRw HO_3)) k_ hk, Kd.fresh' (Kd.R_lt (aRw HO139)) k_ hk⟩))
            (case aO => exact (by (with_reducible repeat (first | apply Kd.R_alloc | apply Kd.R_drewN | apply Kd.R_drew)); exact Kd.R_mono HO136.out bK))
            (case aS => exact (below_size bB))
            (case aL => have := LMc36.out; omega)
            intro v141 w51 ho hb hg hat
            rw [← Ny140.out] at ho
            replace HO_3 := Aside0.mk (Kd.R_after (ok := (fun k_ => some k_ ≠ ob Ao52 y137 co52)) (by (with_reducible repeat (first | apply Kd.R_alloc | apply Kd.R_drewN | apply Kd.R_drew)); exact Kd.R_mono HO_3.out bK) hg hat)
            replace HO139 := Aside0.mk (Kd.R_after (ok := (fun k_ => some k_ ≠ ob Ao41 x3_1 co41)) (by (with_reducible repeat (first | apply Kd.R_alloc | apply Kd.R_drewN | apply Kd.R_drew)); exact Kd.R_mono HO139.out bK) hg hat)
            replace HB := Aside0.mk hb
            have HO142 := Aside0.mk ho
            clear HO136
            clear ho hb hg hat
            refine hK.out _ _ trivial (fun hHeld => ?_)
            clear hK K
            refine norm_ (a' := ?_) ?_ ?_
            rotate_left
            ·show Act.put _ (some 39) _ = _
             simp only [Act.put, List.setIfInBounds_toArray, List.set_cons_zero, List.set_cons_succ, i64_w, i32_w]
             rfl
            refine one_ (i := 11) (N := some 43) #[true, true, true, true, true, true, true, true, true, true, true, true, false] rfl rfl (one_of HT_.out (by kernel_rfl)) (by decide) (fun K hK => ?_)
            refine Kd.R_append_rows_step (Kd.int .i64) (w0 := w) w.heap.size (by rfl) (.tmp 39) (.tmp 42) 46 3 (.int .i64 0) 8 rfl Try.underlying46 info3 rfl (by decide) (by omega) v141 y140 y143 _ _ _ (fun k_ => some k_ ≠ ob Ao41 x3_1 co41 ∧ some k_ ≠ ob Ao52 y137 co52) (fun _ => False) rfl rfl ?aO ?aR (fun _ _ h => h) (fun _ h => h.elim) ?aF ?aB ?aS ?aL ?_
            (case aR => exact (show Kd.C (Kd.int .i64) _ A44 y143.length y143 from by rw [Ny143.out, KA44.out]; refine Kd.C_drop (m := (x5_2 : Int).toNat) (c := co41) ?_ KL44.out ((Kd.R_reads' HO_3.out).2.1); refine (Kd.R_reads' (e := 3) (base := w.heap.size) (ok := fun k_ => (some k_ ≠ ob Ao52 y137 co52 ∧ some k_ ≠ (v141 : Value).ownBlock)) (n := x3_1.length) (c := co41) ?_).2.2; exact (aRw HO_3)))
            (case aB => exact bB)
            (case aF => exact (fun k_ hk => ⟨Kd.fresh' (Kd.R_lt (aRw HO_3)) k_ hk, Kd.fresh' (Kd.R_lt (aRw HO139)) k_ hk⟩))
            (case aO => exact (aRw HO142))
            (case aS => exact (below_size bB))
            (case aL => have := LMc39.out; omega)
            intro v148 w53 ho hb hg hat
            rw [← Ny147.out] at ho
            replace HO_3 := Aside0.mk (Kd.R_after (ok := (fun k_ => some k_ ≠ ob Ao52 y137 co52)) (aRw HO_3) hg hat)
            replace HO139 := Aside0.mk (Kd.R_after (ok := (fun k_ => some k_ ≠ ob Ao41 x3_1 co41)) (aRw HO139) hg hat)
            replace HB := Aside0.mk hb
            have HO149 := Aside0.mk ho
            clear HO142
            clear ho hb hg hat
            refine hK.out _ _ trivial (fun hHeld => ?_)
            clear hK K
            refine norm_ (a' := ?_) ?_ ?_
            rotate_left
            ·show Act.put _ (some 43) _ = _
             simp only [Act.put, List.setIfInBounds_toArray, List.set_cons_zero, List.set_cons_succ, i64_w, i32_w]
             rfl
            refine pV 12 3 rfl rfl ?_
            refine done_ (done_of HT_.out (by kernel_rfl)) ?_
            try go_wp2
            go_roundg k2
            case measure => have := HK1.out; have := HK2.out; omega
            case rel => exact ⟨(y147), (wrap64 (x4_1 + 1)), bS, H', ⟨by have := HK1.out; have := HK2.out; omega⟩, ⟨by (with_reducible repeat (first | apply Kd.R_alloc | apply Kd.R_drewN | apply Kd.R_drew)); exact Kd.R_mono HO149.out (fun _ hk => trivial)⟩, ⟨bB⟩⟩
           ·rw [if_neg c39] at H
            exact absurd H (by simp)
          ·rw [if_neg c36] at H
           exact absurd H (by simp)
         ·rw [if_neg c35] at H
          exact absurd H (by simp)
        ·rw [if_neg c34] at H
         exact absurd H (by simp)
       ·rw [if_neg c33] at H
        exact absurd H (by simp)
   ·rw [if_neg c2] at H
    have c2b0 : decide (x4_1 < (l0.length : Int)) = false := decide_eq_false c2
    clear c2
    obtain rfl := Option.some.inj H
    go_wp2
    go_ret
    exact ⟨_, by first | rfl | (simp [errW_none, errW_some] <;> rfl) | (simp [*, errW_none, errW_some] <;> rfl), aRw HO_3, bB⟩

end Go.Proofs.Ytcebjhbphcoboaa.X
