-- Written by a program of this session (wip/xp), out of the translation. Not trusted: Lean checks it.
import Derived.Test.YtohgjbkiemnfnaaR0
import Derived.Test.YtohgjbkiemnfnaaRn72
import Derived.Test.YtohgjbkiemnfnaaRn73
-- shrunk
namespace Go.Proofs.Ytohgjbkiemnfnaa.R
open Go.RowKit Go.Proofs.YtohgjbkiemnfnaaW.PrintWords Go.Proofs.YtohgjbkiemnfnaaW.PrintLast Go.Proofs.YtohgjbkiemnfnaaW.PrintMore
attribute [local go_sem] Lab.str_gtr Lab.str_leq Lab.str_geq max2_int min2_int max_two min_two max_three min_three max_four min_four   -- for this text's walks alone
set_option linter.unusedVariables false
set_option linter.unusedSimpArgs false

/-! ### ferruleref12_Clean: function 34 -/
mutual
def ferruleref12_Clean.l0 : Nat → List Int → List Int → Int → Option (List Int × Bool)
 | 0, _, _, _ => none
 | k + 1, x0, x4, x5 => if x5 < (x0.length : Int) then (if 0 ≤ x5 then ((ferruleref12_Var.f k (rd x0 x5)).bind fun t102 => (if t102 = 0 then (ferruleref12_Clean.j1 k x0 x4 x5 true) else (if x5 ≤ (x0.length : Int) then ((ferruleref12_Has.f k (x0.take (x5 : Int).toNat) (rd x0 x5)).bind fun t105 => (ferruleref12_Clean.j1 k x0 x4 x5 t105)) else (none)))) else (none)) else (some (x4, false))
def ferruleref12_Clean.j1 : Nat → List Int → List Int → Int → Bool → Option (List Int × Bool)
 | 0, _, _, _, _ => none
 | k + 1, x0, x4, x5, x28 => if x28 = true then (ferruleref12_Clean.l0 k x0 x4 (wrap64 (x5 + 1))) else (if 0 ≤ x5 then (if x5 < (x0.length : Int) then ((ferruleref12_Has.f k x0 (wrap64 (-(rd x0 x5)))).bind fun t107 => (if t107 = true then (some (([] : List Int), true)) else (ferruleref12_Clean.l1 k x0 x4 x5 0))) else (none)) else (none))
def ferruleref12_Clean.l1 : Nat → List Int → List Int → Int → Int → Option (List Int × Bool)
 | 0, _, _, _, _ => none
 | k + 1, x0, x4, x5, x6 => if x6 < (x4.length : Int) then (if 0 ≤ x6 then ((ferruleref12_Var.f k (rd x4 x6)).bind fun t109 => (if 0 ≤ x5 then (if x5 < (x0.length : Int) then ((ferruleref12_Var.f k (rd x0 x5)).bind fun t111 => (if t109 < t111 then (ferruleref12_Clean.l1 k x0 x4 x5 (wrap64 (x6 + 1))) else ((some (([] : List Int) : List Int)).bind fun y112 => (if x6 ≤ (x4.length : Int) then ((some (x4.take (x6 : Int).toNat : List Int)).bind fun y115 => (if y112.length + y115.length < 17592186044416 then ((some (y112 ++ y115 : List Int)).bind fun y119 => ((some (([rd x0 x5] : List Int) : List Int)).bind fun y123 => (if y119.length + y123.length < 17592186044416 then ((some (y119 ++ y123 : List Int)).bind fun y126 => ((some (x4.drop (x6 : Int).toNat : List Int)).bind fun y129 => (if y126.length + y129.length < 17592186044416 then (ferruleref12_Clean.l0 k x0 (y126 ++ y129) (wrap64 (x5 + 1))) else (none)))) else (none)))) else (none))) else (none))))) else (none)) else (none))) else (none)) else ((some (([] : List Int) : List Int)).bind fun y136 => (if 0 ≤ x6 then (if x6 ≤ (x4.length : Int) then ((some (x4.take (x6 : Int).toNat : List Int)).bind fun y139 => (if y136.length + y139.length < 17592186044416 then ((some (y136 ++ y139 : List Int)).bind fun y143 => (if 0 ≤ x5 then (if x5 < (x0.length : Int) then ((some (([rd x0 x5] : List Int) : List Int)).bind fun y147 => (if y143.length + y147.length < 17592186044416 then ((some (y143 ++ y147 : List Int)).bind fun y150 => ((some (x4.drop (x6 : Int).toNat : List Int)).bind fun y153 => (if y150.length + y153.length < 17592186044416 then (ferruleref12_Clean.l0 k x0 (y150 ++ y153) (wrap64 (x5 + 1))) else (none)))) else (none))) else (none)) else (none))) else (none))) else (none)) else (none)))
end
def ferruleref12_Clean.f (k : Nat) (l0 : List Int) : Option (List Int × Bool) := ferruleref12_Clean.l0 k l0 ([] : List Int) 0
theorem ferruleref12_Clean.mono_l : ∀ k, (∀ y0 y1 y2, LeO (ferruleref12_Clean.l0 k y0 y1 y2) (ferruleref12_Clean.l0 (k + 1) y0 y1 y2)) ∧ (∀ y0 y1 y2 y3, LeO (ferruleref12_Clean.j1 k y0 y1 y2 y3) (ferruleref12_Clean.j1 (k + 1) y0 y1 y2 y3)) ∧ (∀ y0 y1 y2 y3, LeO (ferruleref12_Clean.l1 k y0 y1 y2 y3) (ferruleref12_Clean.l1 (k + 1) y0 y1 y2 y3))
 | 0 => ⟨fun _ _ _ r h => by simp [ferruleref12_Clean.l0] at h, fun _ _ _ _ r h => by simp [ferruleref12_Clean.j1] at h, fun _ _ _ _ r h => by simp [ferruleref12_Clean.l1] at h⟩
 | k + 1 => by
  obtain ⟨ih0, ih1, ih2⟩ := ferruleref12_Clean.mono_l k
  refine ⟨?_, ?_, ?_⟩
  ·intro y0 y1 y2
   unfold ferruleref12_Clean.l0
   repeat' first
   | (with_reducible exact ih0 _ _ _)
   | (with_reducible exact ih1 _ _ _ _)
   | (with_reducible exact ih2 _ _ _ _)
   | (with_reducible exact ferruleref12_Has.mono _ _ _)
   | (with_reducible exact ferruleref12_Var.mono _ _)
   | (with_reducible exact LeO.refl _)
   | (with_reducible exact LeO.none _)
   | (with_reducible refine LeO.ite ?_ ?_)
   | (with_reducible refine LeO.bind ?_ (fun _ => ?_))
   | exact ih0 _ _ _
   | exact ih1 _ _ _ _
   | exact ih2 _ _ _ _
   | exact ferruleref12_Has.mono _ _ _
   | exact ferruleref12_Var.mono _ _
   | exact LeO.none _
   | refine LeO.ite ?_ ?_
   | refine LeO.bind ?_ (fun _ => ?_)
  ·intro y0 y1 y2 y3
   unfold ferruleref12_Clean.j1
   repeat' first
   | (with_reducible exact ih0 _ _ _)
   | (with_reducible exact ih1 _ _ _ _)
   | (with_reducible exact ih2 _ _ _ _)
   | (with_reducible exact ferruleref12_Has.mono _ _ _)
   | (with_reducible exact ferruleref12_Var.mono _ _)
   | (with_reducible exact LeO.refl _)
   | (with_reducible exact LeO.none _)
   | (with_reducible refine LeO.ite ?_ ?_)
   | (with_reducible refine LeO.bind ?_ (fun _ => ?_))
   | exact ih0 _ _ _
   | exact ih1 _ _ _ _
   | exact ih2 _ _ _ _
   | exact ferruleref12_Has.mono _ _ _
   | exact ferruleref12_Var.mono _ _
   | exact LeO.none _
   | refine LeO.ite ?_ ?_
   | refine LeO.bind ?_ (fun _ => ?_)
  ·intro y0 y1 y2 y3
   unfold ferruleref12_Clean.l1
   repeat' first
   | (with_reducible exact ih0 _ _ _)
   | (with_reducible exact ih1 _ _ _ _)
   | (with_reducible exact ih2 _ _ _ _)
   | (with_reducible exact ferruleref12_Has.mono _ _ _)
   | (with_reducible exact ferruleref12_Var.mono _ _)
   | (with_reducible exact LeO.refl _)
   | (with_reducible exact LeO.none _)
   | (with_reducible refine LeO.ite ?_ ?_)
   | (with_reducible refine LeO.bind ?_ (fun _ => ?_))
   | exact ih0 _ _ _
   | exact ih1 _ _ _ _
   | exact ih2 _ _ _ _
   | exact ferruleref12_Has.mono _ _ _
   | exact ferruleref12_Var.mono _ _
   | exact LeO.none _
   | refine LeO.ite ?_ ?_
   | refine LeO.bind ?_ (fun _ => ?_)
theorem ferruleref12_Clean.mono : ∀ a0 k, LeO (ferruleref12_Clean.f k a0) (ferruleref12_Clean.f (k + 1) a0) := by
 intro a0 k
 obtain ⟨ih0, ih1, ih2⟩ := ferruleref12_Clean.mono_l k
 unfold ferruleref12_Clean.f
 repeat' first
   | (with_reducible exact ih0 _ _ _)
   | (with_reducible exact ih1 _ _ _ _)
   | (with_reducible exact ih2 _ _ _ _)
   | (with_reducible exact ferruleref12_Has.mono _ _ _)
   | (with_reducible exact ferruleref12_Var.mono _ _)
   | (with_reducible exact LeO.refl _)
   | (with_reducible exact LeO.none _)
   | (with_reducible refine LeO.ite ?_ ?_)
   | (with_reducible refine LeO.bind ?_ (fun _ => ?_))
   | exact ih0 _ _ _
   | exact ih1 _ _ _ _
   | exact ih2 _ _ _ _
   | exact ferruleref12_Has.mono _ _ _
   | exact ferruleref12_Var.mono _ _
   | exact LeO.none _
   | refine LeO.ite ?_ ?_
   | refine LeO.bind ?_ (fun _ => ?_)
def ferruleref12_Clean.T5 : Bool × List (List Nat × List Nat) := (true, [([], []), ([], []), ([0, 1], [0, 1]), ([2], [2]), ([3], [3]), ([4], [4]), ([5, 4], [5]), ([6], [6]), ([6], [6]), ([7, 8, 6], [6, 7, 8]), ([6], [6]), ([6], [6]), ([10, 11, 6], [6, 10, 11]), ([12, 6], [6, 12]), ([9, 13, 6, 6], [6, 9, 13]), ([6, 14], [6, 14])])
def ferruleref12_Clean.B5 : List Nat := [0, 0, 3, 7, 15, 31, 63, 127, 127, 511, 127, 127, 3199, 7295, 16383, 32767]
theorem ferruleref12_Clean.tab5 : rtab .any (opsOf Try.f34 5) = ferruleref12_Clean.T5 := by kernel_rfl
theorem ferruleref12_Clean.bits5 : waitsOk ferruleref12_Clean.T5.2 ferruleref12_Clean.B5 = true := by kernel_rfl
def ferruleref12_Clean.T9 : Bool × List (List Nat × List Nat) := (true, [([], []), ([], []), ([1], [1]), ([0, 2], [0, 2]), ([3], [3]), ([4], [4]), ([4], [4]), ([5, 6, 4], [4, 5, 6]), ([7, 4], [4, 7]), ([8, 4, 4], [4, 8]), ([4], [4]), ([4], [4]), ([10, 11, 4], [4, 10, 11]), ([12, 4], [4, 12]), ([13, 9, 4], [4, 13]), ([9, 14, 4], [4, 9, 14]), ([4, 15], [4, 15])])
def ferruleref12_Clean.B9 : List Nat := [0, 0, 2, 7, 15, 31, 31, 127, 255, 511, 31, 31, 3103, 7199, 16383, 32767, 65535]
theorem ferruleref12_Clean.tab9 : rtab .any (opsOf Try.f34 9) = ferruleref12_Clean.T9 := by kernel_rfl
theorem ferruleref12_Clean.bits9 : waitsOk ferruleref12_Clean.T9.2 ferruleref12_Clean.B9 = true := by kernel_rfl
def ferruleref12_Clean.T11 : Bool × List (List Nat × List Nat) := (true, [([], []), ([], []), ([], []), ([1, 2], [1, 2]), ([0, 3], [0, 3]), ([], []), ([], []), ([5, 6], [5, 6]), ([7], [7]), ([8], [8]), ([4, 9, 4], [4, 9]), ([], []), ([], []), ([11, 12], [11, 12]), ([10, 13, 10], [10, 13]), ([14, 14, 0, 1, 2, 3, 4, 5, 6, 7, 8, 9, 10, 11, 12, 13, 14], [1, 11, 14])])
def ferruleref12_Clean.B11 : List Nat := [0, 0, 0, 6, 15, 0, 0, 96, 224, 480, 1023, 0, 0, 6144, 16383, 32767]
theorem ferruleref12_Clean.tab11 : rtab .any (opsOf Try.f34 11) = ferruleref12_Clean.T11 := by kernel_rfl
theorem ferruleref12_Clean.bits11 : waitsOk ferruleref12_Clean.T11.2 ferruleref12_Clean.B11 = true := by kernel_rfl
set_option maxHeartbeats 8000000 in
set_option maxRecDepth 100000 in
theorem ferruleref12_Clean.calls (k : Nat) (A0 : Option Addr) (c0 : Nat) (l0 : List Int) (r1 : List Int) (r2 : Bool) (w : World) (hr0 : Kd.C (Kd.int .i64) w A0 l0.length l0) (hc0 : l0.length ≤ c0) (h : ferruleref12_Clean.f k l0 = some (r1, r2)) :
  Calls Try.prog 34 #[.slice A0 l0.length c0] w fun e w' => ∃ v0_ : Value, e = .returned (.tuple #[v0_, .bool r2]) ∧ Kd.R (Kd.int .i64) 3 w' w.heap.size (fun _ => True) v0_ r1 ∧ Below w.heap.size w w' := by
 have HR0 := Aside0.mk hr0
 have HC0 := Aside0.mk hc0
 clear hr0 hc0
 have HB := Aside0.mk (Below.refl w.heap.size w)
 have H : (ferruleref12_Clean.l0 k l0 ([] : List Int) 0) = some (r1, r2) := h
 clear h
 have H' := Aside0.mk H
 clear H
 go_enter Try.func34, Try.ntmps34
 go_wp2
 go_loopg [4, 5] k (fun kq v4 v5 w' => ∃ (x4_1 : List Int) (x5_1 : Int), v5 = .int .i64 x5_1 ∧ Aside0 (ferruleref12_Clean.l0 kq l0 x4_1 x5_1 = some (r1, r2)) ∧ Aside0 (kq ≤ k) ∧ Aside0 (Kd.R (Kd.int .i64) 3 w' w.heap.size (fun _ => True) v4 x4_1) ∧ Aside0 (Below w.heap.size w w'))
 case atStart => exact ⟨(([] : List Int)), (0), bS, H', ⟨Nat.le_refl _⟩, ⟨by first | exact Kd.R_nil _ _ _ _ _ | exact Kd.N_nil _ _ _ _ _ | exact Kd.V_nil _ _ _ _ _ | exact Kd.Q_nil _ _ _ _ _ | exact Kd.S_nil _ _ _ _ _⟩, ⟨bB⟩⟩
 case round =>
  clear H'
  obtain ⟨x4_1, x5_1, rfl, HA, HK1, HO_4, HB⟩ := hrel
  cases gk with
  | zero => exact absurd HA.out (by simp [ferruleref12_Clean.l0])
  | succ k1 =>
   have H := HA.out
   clear HA
   simp only [ferruleref12_Clean.l0] at H
   by_cases c2 : x5_1 < (l0.length : Int)
   ·rw [if_pos c2] at H
    have c2b0 : decide (x5_1 < (l0.length : Int)) = true := decide_eq_true c2
    clear c2
    have HC3 := Aside0.mk H
    clear H
    go_upto_region 5 with (fail)
    go_cut [28] (fun v28 wc => ∃ (kq : Nat) (x28_2 : Bool), v28 = .bool x28_2 ∧ Aside0 (ferruleref12_Clean.j1 kq l0 x4_1 x5_1 x28_2 = some (r1, r2)) ∧ Aside0 (kq ≤ k1) ∧ Aside0 (Kd.R (Kd.int .i64) 3 wc w.heap.size (fun _ => True) u4 x4_1) ∧ Aside0 (Below w.heap.size w wc))
    case first =>
     have H := HC3.out
     clear HC3
     by_cases c4 : 0 ≤ x5_1
     ·rw [if_pos c4] at H
      have c4b0 : decide (0 ≤ x5_1) = true := decide_eq_true c4
      clear c4
      (first | rw [c4b0] | (simp only [i64_w, i32_w]; rw [c4b0]) | skip)
      replace H := Option.bind_eq_some_iff.mp H
      obtain ⟨t102, A50, H⟩ := H
      replace H : (if t102 = 0 then (ferruleref12_Clean.j1 k1 l0 x4_1 x5_1 true) else (if x5_1 ≤ (l0.length : Int) then ((ferruleref12_Has.f k1 (l0.take (x5_1 : Int).toNat) (rd l0 x5_1)).bind fun t105 => (ferruleref12_Clean.j1 k1 l0 x4_1 x5_1 t105)) else (none))) = some (r1, r2) := H
      have A5 := Aside0.mk A50
      clear A50
      by_cases c6 : t102 = 0
      ·rw [if_pos c6] at H
       have c6b0 : (t102 == 0) = true := beq_iff_eq.mpr c6
       have c6b1 : (t102 != 0) = false := bne_eq_false_iff_eq.mpr c6
       clear c6
       have H' := Aside0.mk H
       clear H
       try go_wp2
       replace HO_4 := Aside0.mk (Kd.R_drew HO_4.out)
       replace HB := Aside0.mk (below_drew1 HB.out)
       have p101 : 0 ≤ (x5_1 : Int) := oD
       have q101 : x5_1 < (l0.length : Int) := oD
       obtain ⟨ad101, e101, hx101_0⟩ := Kd.at_int HR0.out x5_1 p101 q101
       have hw101_0 := hx101_0
       cases e101
       replace hx101_0 := (HB.out.cell (World.block_lt_of_cell? w _ hx101_0)).trans hx101_0
       replace p101 := eq_true p101
       replace q101 := eq_true q101
       refine start_ (n := 16) (S := fun w' => w'.cell? (ad101.add (x5_1).toNat) = some (.int .i64 (rd l0 x5_1))) (ds := []) #[false, false, false, false, false, false, false, false, false, false, false, false, false, false, false, false] (by kernel_rfl) rfl rfl (((HB.out.cell (World.block_lt_of_cell? w _ hw101_0)).trans hw101_0)) (fun hHeld => ?_); refine with_tabW ferruleref12_Clean.tab5 ferruleref12_Clean.bits5 (fun HT_ HW_ => ?_)
       generalize wr.drew = w7 at HO_4 HB hx101_0 hHeld ⊢
       refine pV 0 13 rfl rfl ?_
       refine pV 1 14 rfl rfl ?_
       refine pV 2 15 rfl rfl ?_
       refine take_ (i := 3) (N := some 16) (v := ?_) (a' := ?_) #[true, true, true, true, false, false, false, false, false, false, false, false, false, false, false, false] rfl rfl (take_ofW HT_.out HW_.out (by kernel_rfl)) (fun _ _ _ h => h) (Or.inl ⟨by rfl, ?_⟩) hHeld ?_ ?_
       rotate_left
       ·intro w' s0
        go_simp
        with_reducible rfl
       rotate_left
       ·simp only [Act.put, List.setIfInBounds_toArray, List.set_cons_zero, List.set_cons_succ, i64_w, i32_w]
        rfl
       refine one_ (i := 4) (N := some 17) #[true, true, true, true, true, false, false, false, false, false, false, false, false, false, false, false] rfl rfl (one_of HT_.out (by kernel_rfl)) (by decide) (fun K hK => ?_)
       refine goes_ Try.func72 (by kernel_rfl) rfl #[.int .i64 (rd l0 x5_1)] (by rfl) rfl rfl bM ?_
       with_reducible refine (ferruleref12_Var.calls k1 (rd l0 x5_1) t102 _ A5.out).mono ?_
       rintro e w' ⟨rfl, ⟨nd, rfl⟩⟩
       refine ⟨_, rfl, ?_⟩
       refine hK.out _ _ (((HB.out.cell (World.block_lt_of_cell? w _ hw101_0)).trans hw101_0)) (fun hHeld => ?_)
       clear hK K
       refine norm_ (a' := ?_) ?_ ?_
       rotate_left
       ·show Act.put _ (some 17) _ = _
        simp only [Act.put, List.setIfInBounds_toArray, List.set_cons_zero, List.set_cons_succ, i64_w, i32_w]
        rfl
       refine pV 5 18 rfl rfl ?_
       refine pV 6 19 rfl rfl ?_
       refine pU 7 20 rfl rfl ?_
       refine pU 8 21 rfl rfl ?_
       refine pU 9 22 rfl rfl ?_
       refine pU 10 23 rfl rfl ?_
       refine pU 11 24 rfl rfl ?_
       refine pU 12 25 rfl rfl ?_
       refine pU 13 26 rfl rfl ?_
       refine pU 14 27 rfl rfl ?_
       refine pV 15 28 rfl rfl ?_
       refine done_ (done_of HT_.out (by kernel_rfl)) ?_
       try go_wp2
       go_meet
       case rel => exact ⟨_, (true), bS, H', ⟨by have := HK1.out; first | omega | exact Nat.le_refl _⟩, ⟨aRw HO_4⟩, ⟨bB⟩⟩
      ·rw [if_neg c6] at H
       have c6b0 : (t102 == 0) = false := beq_eq_false_iff_ne.mpr c6
       have c6b1 : (t102 != 0) = true := bne_iff_ne.mpr c6
       have c8b0 := eq_true (oD : 0 ≤ x5_1)
       by_cases c9 : x5_1 ≤ (l0.length : Int)
       ·rw [if_pos c9] at H
        have c9b0 := eq_true c9
        have c9b1 : decide (x5_1 ≤ (l0.length : Int)) = true := decide_eq_true c9
        clear c9
        replace H := Option.bind_eq_some_iff.mp H
        obtain ⟨t105, A100, H⟩ := H
        replace H : (ferruleref12_Clean.j1 k1 l0 x4_1 x5_1 t105) = some (r1, r2) := H
        have A10 := Aside0.mk A100
        clear A100
        have H' := Aside0.mk H
        clear H
        try go_wp2
        replace HO_4 := Aside0.mk (Kd.R_drew HO_4.out)
        replace HB := Aside0.mk (below_drew1 HB.out)
        have p101 : 0 ≤ (x5_1 : Int) := oD
        have q101 : x5_1 < (l0.length : Int) := oD
        obtain ⟨ad101, e101, hx101_0⟩ := Kd.at_int HR0.out x5_1 p101 q101
        have hw101_0 := hx101_0
        cases e101
        replace hx101_0 := (HB.out.cell (World.block_lt_of_cell? w _ hx101_0)).trans hx101_0
        replace p101 := eq_true p101
        replace q101 := eq_true q101
        have p104 : 0 ≤ (x5_1 : Int) := oD
        have q104 : x5_1 < (l0.length : Int) := oD
        obtain ⟨ad104, e104, hx104_0⟩ := Kd.at_int HR0.out x5_1 p104 q104
        have hw104_0 := hx104_0
        obtain rfl : ad101 = ad104 := (by injection e104)
        replace hx104_0 := (HB.out.cell (World.block_lt_of_cell? w _ hx104_0)).trans hx104_0
        replace p104 := eq_true p104
        replace q104 := eq_true q104
        refine start_ (n := 16) (S := fun w' => w'.cell? (ad101.add (x5_1).toNat) = some (.int .i64 (rd l0 x5_1)) ∧ w'.cell? (ad101.add (x5_1).toNat) = some (.int .i64 (rd l0 x5_1))) (ds := []) #[false, false, false, false, false, false, false, false, false, false, false, false, false, false, false, false] (by kernel_rfl) rfl rfl ⟨((HB.out.cell (World.block_lt_of_cell? w _ hw101_0)).trans hw101_0), ((HB.out.cell (World.block_lt_of_cell? w _ hw104_0)).trans hw104_0)⟩ (fun hHeld => ?_); refine with_tabW ferruleref12_Clean.tab5 ferruleref12_Clean.bits5 (fun HT_ HW_ => ?_)
        generalize wr.drew = w11 at HO_4 HB hx101_0 hx104_0 hHeld ⊢
        refine pV 0 13 rfl rfl ?_
        refine pV 1 14 rfl rfl ?_
        refine pV 2 15 rfl rfl ?_
        refine tV 3 16 rfl rfl ?_
        refine one_ (i := 4) (N := some 17) #[true, true, true, true, true, false, false, false, false, false, false, false, false, false, false, false] rfl rfl (one_of HT_.out (by kernel_rfl)) (by decide) (fun K hK => ?_)
        refine goes_ Try.func72 (by kernel_rfl) rfl #[.int .i64 (rd l0 x5_1)] (by rfl) rfl rfl bM ?_
        with_reducible refine (ferruleref12_Var.calls k1 (rd l0 x5_1) t102 _ A5.out).mono ?_
        rintro e w' ⟨rfl, ⟨nd, rfl⟩⟩
        refine ⟨_, rfl, ?_⟩
        obtain ⟨i012, hi012, _, hsz12, _⟩ := info_parts info3
        obtain ⟨hcut12, hA12, hC12⟩ := print_take_of (P := Try.prog) (Value.int .i64) 0 22 3 .i64 Try.underlying22 hi012 hsz12 (some ad101) c0 l0 x5_1 oD oD HC0.out
        have HR103 := Aside0.mk (Kd.C_of_reads (h1 := fun _ => rfl) (hA12 _ (Kd.reads_of_C HR0.out)))
        have HC103 := Aside0.mk hC12
        clear hA12 hC12 hi012 hsz12
        refine hK.out _ _ ⟨((HB.out.cell (World.block_lt_of_cell? w _ hw101_0)).trans hw101_0), ((HB.out.cell (World.block_lt_of_cell? w _ hw104_0)).trans hw104_0)⟩ (fun hHeld => ?_)
        clear hK K
        refine norm_ (a' := ?_) ?_ ?_
        rotate_left
        ·show Act.put _ (some 17) _ = _
         simp only [Act.put, List.setIfInBounds_toArray, List.set_cons_zero, List.set_cons_succ, i64_w, i32_w]
         rfl
        refine pV 5 18 rfl rfl ?_
        refine pV 6 19 rfl rfl ?_
        refine pV 7 20 rfl rfl ?_
        refine pV 8 21 rfl rfl ?_
        refine pV 9 22 rfl rfl ?_
        refine pV 10 23 rfl rfl ?_
        refine pV 11 24 rfl rfl ?_
        refine pV 12 25 rfl rfl ?_
        refine tV 13 26 rfl rfl ?_
        refine one_ (i := 14) (N := some 27) #[true, true, true, true, true, true, true, true, true, true, true, true, true, true, true, false] rfl rfl (one_of HT_.out (by kernel_rfl)) (by decide) (fun K hK => ?_)
        refine goes_ Try.func73 (by kernel_rfl) rfl #[.slice (some ad101) (l0.take (x5_1 : Int).toNat).length c0, .int .i64 (rd l0 x5_1)] (by rfl) rfl rfl (by (try simp only [List.map_toArray, List.map_cons, List.map_nil]); first | done | (rw [show (l0.take (x5_1 : Int).toNat).length = x5_1.toNat from (by rw [List.length_take]; have h_ : (x5_1 : Int) ≤ (l0.length : Int) := oD; omega)] <;> rfl) | rfl | (simp only [List.length_drop, List.length_take]; rfl)) ?_
        with_reducible refine (ferruleref12_Has.calls k1 _ _ (l0.take (x5_1 : Int).toNat) (rd l0 x5_1) t105 _ ?side1 ?side2 A10.out).mono ?_
        (case side1 => exact sW (Kd.C_below HR103.out bB))
        (case side2 => exact HC103.out)
        rintro e w' ⟨rfl, ⟨nd, rfl⟩⟩
        refine ⟨_, rfl, ?_⟩
        refine hK.out _ _ ⟨((HB.out.cell (World.block_lt_of_cell? w _ hw101_0)).trans hw101_0), ((HB.out.cell (World.block_lt_of_cell? w _ hw104_0)).trans hw104_0)⟩ (fun hHeld => ?_)
        clear hK K
        refine norm_ (a' := ?_) ?_ ?_
        rotate_left
        ·show Act.put _ (some 27) _ = _
         simp only [Act.put, List.setIfInBounds_toArray, List.set_cons_zero, List.set_cons_succ, i64_w, i32_w]
         rfl
        refine pV 15 28 rfl rfl ?_
        refine done_ (done_of HT_.out (by kernel_rfl)) ?_
        try go_wp2
        go_meet
        case rel => exact ⟨_, (t105), bS, H', ⟨by have := HK1.out; first | omega | exact Nat.le_refl _⟩, ⟨aRw HO_4⟩, ⟨bB⟩⟩
       ·rw [if_neg c9] at H
        exact absurd H (by simp)
     ·rw [if_neg c4] at H
      exact absurd H (by simp)
    case rest =>
     clear HC3
     try clear p1
     try clear q1
     try clear hx1
     try clear c2
     try clear c2b0
     try clear p2
     try clear c3
     try clear c4
     try clear c4b0
     try clear c6
     try clear c6b0
     try clear c6b1
     try clear p6
     try clear c7
     try clear c8
     try clear c8b0
     try clear c9
     try clear c9b0
     try clear c9b1
     try clear p10
     try clear q10
     try clear hx10
     try clear hx101_0
     try clear hx104_0
     try clear p101
     try clear p104
     try clear q101
     try clear q104
     obtain ⟨kq, x28_2, rfl, HA, HJ2, HO_4, HB⟩ := hcut
     cases kq with
     | zero => exact absurd HA.out (by simp [ferruleref12_Clean.j1])
     | succ kj2 =>
      have H := HA.out
      clear HA
      simp only [ferruleref12_Clean.j1] at H
      by_cases c13 : x28_2 = true
      ·subst c13
       have H1 : (ferruleref12_Clean.l0 kj2 l0 x4_1 (wrap64 (x5_1 + 1))) = some (r1, r2) := by rw [if_pos rfl] at H; exact H
       clear H
       have H := H1
       clear H1
       have H' := Aside0.mk H
       clear H
       go_wp2
       go_roundg kj2
       case measure => have := HK1.out; have := HJ2.out; omega
       case rel => exact ⟨(x4_1), (wrap64 (x5_1 + 1)), bS, H', ⟨by have := HK1.out; have := HJ2.out; omega⟩, ⟨aRw HO_4⟩, ⟨bB⟩⟩
      ·replace c13 := Bool.eq_false_iff.mpr c13
       subst c13
       have H1 : (if 0 ≤ x5_1 then (if x5_1 < (l0.length : Int) then ((ferruleref12_Has.f kj2 l0 (wrap64 (-(rd l0 x5_1)))).bind fun t107 => (if t107 = true then (some (([] : List Int), true)) else (ferruleref12_Clean.l1 kj2 l0 x4_1 x5_1 0))) else (none)) else (none)) = some (r1, r2) := by rw [if_neg (show ¬ (false = true) by decide)] at H; exact H
       clear H
       have H := H1
       clear H1
       by_cases c14 : 0 ≤ x5_1
       ·rw [if_pos c14] at H
        have c14b0 : decide (0 ≤ x5_1) = true := decide_eq_true c14
        clear c14
        by_cases c15 : x5_1 < (l0.length : Int)
        ·rw [if_pos c15] at H
         have c15b0 : decide (x5_1 < (l0.length : Int)) = true := decide_eq_true c15
         clear c15
         replace H := Option.bind_eq_some_iff.mp H
         obtain ⟨t107, A160, H⟩ := H
         replace H : (if t107 = true then (some (([] : List Int), true)) else (ferruleref12_Clean.l1 kj2 l0 x4_1 x5_1 0)) = some (r1, r2) := H
         have A16 := Aside0.mk A160
         clear A160
         by_cases c17 : t107 = true
         ·subst c17
          have H1 : (some (([] : List Int), true)) = some (r1, r2) := by rw [if_pos rfl] at H; exact H
          clear H
          have H := H1
          clear H1
          simp only [Option.some.injEq, Prod.mk.injEq] at H
          obtain ⟨rfl, rfl⟩ := H
          have p106 : 0 ≤ (x5_1 : Int) := oD
          have q106 : x5_1 < (l0.length : Int) := oD
          obtain ⟨ad106, e106, hx106_0⟩ := Kd.at_int HR0.out x5_1 p106 q106
          cases e106
          replace hx106_0 := (HB.out.cell (World.block_lt_of_cell? w _ hx106_0)).trans hx106_0
          replace p106 := eq_true p106
          replace q106 := eq_true q106
          go_wp2_with (first | ((with_reducible refine gate_callee (f := 73) rfl ?_); refine goesL_ (some 35) rfl rfl Try.func73 (by kernel_rfl) rfl #[.slice (some ad106) l0.length c0, .int .i64 (wrap64 (-(rd l0 x5_1)))] rfl bM ?_; (with_reducible refine (ferruleref12_Has.calls kj2 _ _ l0 (wrap64 (-(rd l0 x5_1))) true _ ?side1 ?side2 A16.out).mono ?_); (case side1 => exact sW (Kd.C_below HR0.out HB.out)); (case side2 => exact HC0.out); rintro e w' ⟨rfl, ⟨nd, rfl⟩⟩; refine ⟨_, rfl, ?_⟩))
          go_ret2
          exact ⟨_, by first | rfl | (simp [errW_none, errW_some] <;> rfl) | (simp [*, errW_none, errW_some] <;> rfl), by first | exact Kd.R_nil _ _ _ _ _ | exact Kd.N_nil _ _ _ _ _ | exact Kd.V_nil _ _ _ _ _ | exact Kd.Q_nil _ _ _ _ _ | exact Kd.S_nil _ _ _ _ _, bB⟩
         ·replace c17 := Bool.eq_false_iff.mpr c17
          subst c17
          have H1 : (ferruleref12_Clean.l1 kj2 l0 x4_1 x5_1 0) = some (r1, r2) := by rw [if_neg (show ¬ (false = true) by decide)] at H; exact H
          clear H
          have H := H1
          clear H1
          have H' := Aside0.mk H
          clear H
          have p106 : 0 ≤ (x5_1 : Int) := oD
          have q106 : x5_1 < (l0.length : Int) := oD
          obtain ⟨ad106, e106, hx106_0⟩ := Kd.at_int HR0.out x5_1 p106 q106
          cases e106
          replace hx106_0 := (HB.out.cell (World.block_lt_of_cell? w _ hx106_0)).trans hx106_0
          replace p106 := eq_true p106
          replace q106 := eq_true q106
          go_wp2_with (first | ((with_reducible refine gate_callee (f := 73) rfl ?_); refine goesL_ (some 35) rfl rfl Try.func73 (by kernel_rfl) rfl #[.slice (some ad106) l0.length c0, .int .i64 (wrap64 (-(rd l0 x5_1)))] rfl bM ?_; (with_reducible refine (ferruleref12_Has.calls kj2 _ _ l0 (wrap64 (-(rd l0 x5_1))) false _ ?side1 ?side2 A16.out).mono ?_); (case side1 => exact sW (Kd.C_below HR0.out HB.out)); (case side2 => exact HC0.out); rintro e w' ⟨rfl, ⟨nd, rfl⟩⟩; refine ⟨_, rfl, ?_⟩))
          go_loopg [6] kj2 (fun kq v6 w' => ∃ (x6_3 : Int), v6 = .int .i64 x6_3 ∧ Aside0 (ferruleref12_Clean.l1 kq l0 x4_1 x5_1 x6_3 = some (r1, r2)) ∧ Aside0 (kq ≤ kj2) ∧ Aside0 (Kd.R (Kd.int .i64) 3 w' w.heap.size (fun _ => True) u4 x4_1) ∧ Aside0 (Below w.heap.size w w'))
          case atStart => exact ⟨(0), bS, H', ⟨Nat.le_refl _⟩, ⟨aRw HO_4⟩, ⟨bB⟩⟩
          case round =>
           clear H'
           try clear c1
           try clear p1
           try clear q1
           try clear hx1
           try clear c2
           try clear c2b0
           try clear p2
           try clear c3
           try clear c4
           try clear c4b0
           try clear c6
           try clear c6b0
           try clear c6b1
           try clear p6
           try clear c7
           try clear c8
           try clear c8b0
           try clear c9
           try clear c9b0
           try clear c9b1
           try clear p10
           try clear q10
           try clear hx10
           try clear c13
           try clear c14
           try clear c14b0
           try clear c15
           try clear c15b0
           try clear c17
           try clear hx101_0
           try clear hx104_0
           try clear hx106_0
           try clear p1
           try clear p10
           try clear p101
           try clear p104
           try clear p106
           try clear p2
           try clear p6
           try clear q1
           try clear q10
           try clear q101
           try clear q104
           try clear q106
           obtain ⟨x6_3, rfl, HA, HK3, HO_4, HB⟩ := hrel
           cases gk with
           | zero => exact absurd HA.out (by simp [ferruleref12_Clean.l1])
           | succ k3 =>
            have H := HA.out
            clear HA
            simp only [ferruleref12_Clean.l1] at H
            by_cases c18 : x6_3 < (x4_1.length : Int)
            ·rw [if_pos c18] at H
             have c18b0 : decide (x6_3 < (x4_1.length : Int)) = true := decide_eq_true c18
             clear c18
             by_cases c19 : 0 ≤ x6_3
             ·rw [if_pos c19] at H
              have c19b0 : decide (0 ≤ x6_3) = true := decide_eq_true c19
              clear c19
              replace H := Option.bind_eq_some_iff.mp H
              obtain ⟨t109, A200, H⟩ := H
              replace H : (if 0 ≤ x5_1 then (if x5_1 < (l0.length : Int) then ((ferruleref12_Var.f k3 (rd l0 x5_1)).bind fun t111 => (if t109 < t111 then (ferruleref12_Clean.l1 k3 l0 x4_1 x5_1 (wrap64 (x6_3 + 1))) else ((some (([] : List Int) : List Int)).bind fun y112 => (if x6_3 ≤ (x4_1.length : Int) then ((some (x4_1.take (x6_3 : Int).toNat : List Int)).bind fun y115 => (if y112.length + y115.length < 17592186044416 then ((some (y112 ++ y115 : List Int)).bind fun y119 => ((some (([rd l0 x5_1] : List Int) : List Int)).bind fun y123 => (if y119.length + y123.length < 17592186044416 then ((some (y119 ++ y123 : List Int)).bind fun y126 => ((some (x4_1.drop (x6_3 : Int).toNat : List Int)).bind fun y129 => (if y126.length + y129.length < 17592186044416 then (ferruleref12_Clean.l0 k3 l0 (y126 ++ y129) (wrap64 (x5_1 + 1))) else (none)))) else (none)))) else (none))) else (none))))) else (none)) else (none)) = some (r1, r2) := H
              have A20 := Aside0.mk A200
              clear A200
              by_cases c21 : 0 ≤ x5_1
              ·rw [if_pos c21] at H
               have c21b0 : decide (0 ≤ x5_1) = true := decide_eq_true c21
               clear c21
               by_cases c22 : x5_1 < (l0.length : Int)
               ·rw [if_pos c22] at H
                have c22b0 : decide (x5_1 < (l0.length : Int)) = true := decide_eq_true c22
                clear c22
                replace H := Option.bind_eq_some_iff.mp H
                obtain ⟨t111, A230, H⟩ := H
                replace H : (if t109 < t111 then (ferruleref12_Clean.l1 k3 l0 x4_1 x5_1 (wrap64 (x6_3 + 1))) else ((some (([] : List Int) : List Int)).bind fun y112 => (if x6_3 ≤ (x4_1.length : Int) then ((some (x4_1.take (x6_3 : Int).toNat : List Int)).bind fun y115 => (if y112.length + y115.length < 17592186044416 then ((some (y112 ++ y115 : List Int)).bind fun y119 => ((some (([rd l0 x5_1] : List Int) : List Int)).bind fun y123 => (if y119.length + y123.length < 17592186044416 then ((some (y119 ++ y123 : List Int)).bind fun y126 => ((some (x4_1.drop (x6_3 : Int).toNat : List Int)).bind fun y129 => (if y126.length + y129.length < 17592186044416 then (ferruleref12_Clean.l0 k3 l0 (y126 ++ y129) (wrap64 (x5_1 + 1))) else (none)))) else (none)))) else (none))) else (none)))) = some (r1, r2) := H
                have A23 := Aside0.mk A230
                clear A230
                by_cases c24 : t109 < t111
                ·rw [if_pos c24] at H
                 have c24b0 : decide (t109 < t111) = true := decide_eq_true c24
                 clear c24
                 have H' := Aside0.mk H
                 clear H
                 try go_wp2
                 replace HO_4 := Aside0.mk (Kd.R_drew HO_4.out)
                 replace HB := Aside0.mk (below_drew1 HB.out)
                 obtain ⟨Ao26, co26, eo26⟩ := Kd.R_slice HO_4.out
                 (first | subst eo26 | (injection eo26 with f1_ f2_ f3_; have f4_ := f1_.symm; have f5_ := f3_.symm; clear f1_ f2_ f3_; subst f4_; subst f5_))
                 have p108 : 0 ≤ (x6_3 : Int) := oD
                 have q108 : x6_3 < (x4_1.length : Int) := oD
                 obtain ⟨ad108, e108, hx108_0⟩ := Kd.at_int (Kd.R_reads' HO_4.out).2.2 x6_3 p108 q108
                 cases e108
                 replace p108 := eq_true p108
                 replace q108 := eq_true q108
                 have p110 : 0 ≤ (x5_1 : Int) := oD
                 have q110 : x5_1 < (l0.length : Int) := oD
                 obtain ⟨ad110, e110, hx110_0⟩ := Kd.at_int HR0.out x5_1 p110 q110
                 have hw110_0 := hx110_0
                 obtain rfl : ad106 = ad110 := (by injection e110)
                 replace hx110_0 := (HB.out.cell (World.block_lt_of_cell? w _ hx110_0)).trans hx110_0
                 replace p110 := eq_true p110
                 replace q110 := eq_true q110
                 refine start_ (n := 17) (S := fun w' => w'.cell? (ad108.add (x6_3).toNat) = some (.int .i64 (rd x4_1 x6_3)) ∧ w'.cell? (ad106.add (x5_1).toNat) = some (.int .i64 (rd l0 x5_1))) (ds := []) #[false, false, false, false, false, false, false, false, false, false, false, false, false, false, false, false, false] (by kernel_rfl) rfl rfl ⟨hx108_0, ((HB.out.cell (World.block_lt_of_cell? w _ hw110_0)).trans hw110_0)⟩ (fun hHeld => ?_); refine with_tabW ferruleref12_Clean.tab9 ferruleref12_Clean.bits9 (fun HT_ HW_ => ?_)
                 generalize wr.drew = w25 at HO_4 HB hx108_0 hx110_0 hHeld ⊢
                 refine pV 0 36 rfl rfl ?_
                 refine pV 1 37 rfl rfl ?_
                 refine pV 2 38 rfl rfl ?_
                 refine pV 3 39 rfl rfl ?_
                 refine pV 4 40 rfl rfl ?_
                 refine pV 5 41 rfl rfl ?_
                 refine pV 6 42 rfl rfl ?_
                 refine pV 7 43 rfl rfl ?_
                 refine pV 10 46 rfl rfl ?_
                 refine pV 11 47 rfl rfl ?_
                 refine pV 12 48 rfl rfl ?_
                 refine tV 8 44 rfl rfl ?_
                 refine tV 13 49 rfl rfl ?_
                 refine one_ (i := 9) (N := some 45) #[true, true, true, true, true, true, true, true, true, true, true, true, true, true, false, false, false] rfl rfl (one_of HT_.out (by kernel_rfl)) (by decide) (fun K hK => ?_)
                 refine goes_ Try.func72 (by kernel_rfl) rfl #[.int .i64 (rd x4_1 x6_3)] (by rfl) rfl rfl bM ?_
                 with_reducible refine (ferruleref12_Var.calls k3 (rd x4_1 x6_3) t109 _ A20.out).mono ?_
                 rintro e w' ⟨rfl, ⟨nd, rfl⟩⟩
                 refine ⟨_, rfl, ?_⟩
                 refine hK.out _ _ ⟨hHeld.1, ((HB.out.cell (World.block_lt_of_cell? w _ hw110_0)).trans hw110_0)⟩ (fun hHeld => ?_)
                 clear hK K
                 refine norm_ (a' := ?_) ?_ ?_
                 rotate_left
                 ·show Act.put _ (some 45) _ = _
                  simp only [Act.put, List.setIfInBounds_toArray, List.set_cons_zero, List.set_cons_succ, i64_w, i32_w]
                  rfl
                 refine one_ (i := 14) (N := some 50) #[true, true, true, true, true, true, true, true, true, true, true, true, true, true, true, false, false] rfl rfl (one_of HT_.out (by kernel_rfl)) (by decide) (fun K hK => ?_)
                 refine goes_ Try.func72 (by kernel_rfl) rfl #[.int .i64 (rd l0 x5_1)] (by rfl) rfl rfl bM ?_
                 with_reducible refine (ferruleref12_Var.calls k3 (rd l0 x5_1) t111 _ A23.out).mono ?_
                 rintro e w' ⟨rfl, ⟨nd, rfl⟩⟩
                 refine ⟨_, rfl, ?_⟩
                 refine hK.out _ _ ⟨hHeld.1, ((HB.out.cell (World.block_lt_of_cell? w _ hw110_0)).trans hw110_0)⟩ (fun hHeld => ?_)
                 clear hK K
                 refine norm_ (a' := ?_) ?_ ?_
                 rotate_left
                 ·show Act.put _ (some 50) _ = _
                  simp only [Act.put, List.setIfInBounds_toArray, List.set_cons_zero, List.set_cons_succ, i64_w, i32_w]
                  rfl
                 refine pV 15 51 rfl rfl ?_
                 refine pV 16 52 rfl rfl ?_
                 refine done_ (done_of HT_.out (by kernel_rfl)) ?_
                 try go_wp2
                 go_roundg k3
                 case measure => have := HK1.out; have := HJ2.out; have := HK3.out; omega
                 case rel => exact ⟨(wrap64 (x6_3 + 1)), bS, H', ⟨by have := HK1.out; have := HJ2.out; have := HK3.out; omega⟩, ⟨aRw HO_4⟩, ⟨bB⟩⟩
                ·rw [if_neg c24] at H
                 have c24b0 : decide (t109 < t111) = false := decide_eq_false c24
                 clear c24
                 obtain ⟨y112, hy112⟩ : ∃ y_ : List Int, y_ = (([] : List Int)) := ⟨_, rfl⟩
                 replace H : (if x6_3 ≤ (x4_1.length : Int) then ((some (x4_1.take (x6_3 : Int).toNat : List Int)).bind fun y115 => (if y112.length + y115.length < 17592186044416 then ((some (y112 ++ y115 : List Int)).bind fun y119 => ((some (([rd l0 x5_1] : List Int) : List Int)).bind fun y123 => (if y119.length + y123.length < 17592186044416 then ((some (y119 ++ y123 : List Int)).bind fun y126 => ((some (x4_1.drop (x6_3 : Int).toNat : List Int)).bind fun y129 => (if y126.length + y129.length < 17592186044416 then (ferruleref12_Clean.l0 k3 l0 (y126 ++ y129) (wrap64 (x5_1 + 1))) else (none)))) else (none)))) else (none))) else (none)) = some (r1, r2) := by first | (rw [hy112]; with_reducible exact H) | (have H2_ := (Option.bind_some _ _).symm.trans H; rw [hy112]; with_reducible exact H2_) | (have H2_ := (Option.bind_some _ _).symm.trans H; with_reducible exact H2_) | with_reducible exact H | (rw [hy112]; exact H) | exact H
                 have Ny112 := Aside0.mk hy112
                 clear hy112
                 have c27b0 := eq_true (oD : 0 ≤ x6_3)
                 by_cases c28 : x6_3 ≤ (x4_1.length : Int)
                 ·rw [if_pos c28] at H
                  have c28b0 := eq_true c28
                  have c28b1 : decide (x6_3 ≤ (x4_1.length : Int)) = true := decide_eq_true c28
                  clear c28
                  obtain ⟨y115, hy115⟩ : ∃ y_ : List Int, y_ = (x4_1.take (x6_3 : Int).toNat) := ⟨_, rfl⟩
                  replace H : (if y112.length + y115.length < 17592186044416 then ((some (y112 ++ y115 : List Int)).bind fun y119 => ((some (([rd l0 x5_1] : List Int) : List Int)).bind fun y123 => (if y119.length + y123.length < 17592186044416 then ((some (y119 ++ y123 : List Int)).bind fun y126 => ((some (x4_1.drop (x6_3 : Int).toNat : List Int)).bind fun y129 => (if y126.length + y129.length < 17592186044416 then (ferruleref12_Clean.l0 k3 l0 (y126 ++ y129) (wrap64 (x5_1 + 1))) else (none)))) else (none)))) else (none)) = some (r1, r2) := by first | (rw [hy115]; with_reducible exact H) | (have H2_ := (Option.bind_some _ _).symm.trans H; rw [hy115]; with_reducible exact H2_) | (have H2_ := (Option.bind_some _ _).symm.trans H; with_reducible exact H2_) | with_reducible exact H | (rw [hy115]; exact H) | exact H
                  have Ny115 := Aside0.mk hy115
                  clear hy115
                  by_cases c29 : y112.length + y115.length < 17592186044416
                  ·rw [if_pos c29] at H
                   have LMc29 := Aside0.mk c29
                   clear c29
                   obtain ⟨y119, hy119⟩ : ∃ y_ : List Int, y_ = (y112 ++ y115) := ⟨_, rfl⟩
                   replace H : ((some (([rd l0 x5_1] : List Int) : List Int)).bind fun y123 => (if y119.length + y123.length < 17592186044416 then ((some (y119 ++ y123 : List Int)).bind fun y126 => ((some (x4_1.drop (x6_3 : Int).toNat : List Int)).bind fun y129 => (if y126.length + y129.length < 17592186044416 then (ferruleref12_Clean.l0 k3 l0 (y126 ++ y129) (wrap64 (x5_1 + 1))) else (none)))) else (none))) = some (r1, r2) := by first | (rw [hy119]; with_reducible exact H) | (have H2_ := (Option.bind_some _ _).symm.trans H; rw [hy119]; with_reducible exact H2_) | (have H2_ := (Option.bind_some _ _).symm.trans H; with_reducible exact H2_) | with_reducible exact H | (rw [hy119]; exact H) | exact H
                   have Ny119 := Aside0.mk hy119
                   clear hy119
                   obtain ⟨y123, hy123⟩ : ∃ y_ : List Int, y_ = (([rd l0 x5_1] : List Int)) := ⟨_, rfl⟩
                   replace H : (if y119.length + y123.length < 17592186044416 then ((some (y119 ++ y123 : List Int)).bind fun y126 => ((some (x4_1.drop (x6_3 : Int).toNat : List Int)).bind fun y129 => (if y126.length + y129.length < 17592186044416 then (ferruleref12_Clean.l0 k3 l0 (y126 ++ y129) (wrap64 (x5_1 + 1))) else (none)))) else (none)) = some (r1, r2) := by first | (rw [hy123]; with_reducible exact H) | (have H2_ := (Option.bind_some _ _).symm.trans H; rw [hy123]; with_reducible exact H2_) | (have H2_ := (Option.bind_some _ _).symm.trans H; with_reducible exact H2_) | with_reducible exact H | (rw [hy123]; exact H) | exact H
                   have Ny123 := Aside0.mk hy123
                   clear hy123
                   by_cases c30 : y119.length + y123.length < 17592186044416
                   ·rw [if_pos c30] at H
                    have LMc30 := Aside0.mk c30
                    clear c30
                    obtain ⟨y126, hy126⟩ : ∃ y_ : List Int, y_ = (y119 ++ y123) := ⟨_, rfl⟩
                    replace H : ((some (x4_1.drop (x6_3 : Int).toNat : List Int)).bind fun y129 => (if y126.length + y129.length < 17592186044416 then (ferruleref12_Clean.l0 k3 l0 (y126 ++ y129) (wrap64 (x5_1 + 1))) else (none))) = some (r1, r2) := by first | (rw [hy126]; with_reducible exact H) | (have H2_ := (Option.bind_some _ _).symm.trans H; rw [hy126]; with_reducible exact H2_) | (have H2_ := (Option.bind_some _ _).symm.trans H; with_reducible exact H2_) | with_reducible exact H | (rw [hy126]; exact H) | exact H
                    have Ny126 := Aside0.mk hy126
                    clear hy126
                    have c31b0 := eq_true (oD : 0 ≤ x6_3)
                    have c32b0 := eq_true (oD : x6_3 ≤ (x4_1.length : Int))
                    obtain ⟨y129, hy129⟩ : ∃ y_ : List Int, y_ = (x4_1.drop (x6_3 : Int).toNat) := ⟨_, rfl⟩
                    replace H : (if y126.length + y129.length < 17592186044416 then (ferruleref12_Clean.l0 k3 l0 (y126 ++ y129) (wrap64 (x5_1 + 1))) else (none)) = some (r1, r2) := by first | (rw [hy129]; with_reducible exact H) | (have H2_ := (Option.bind_some _ _).symm.trans H; rw [hy129]; with_reducible exact H2_) | (have H2_ := (Option.bind_some _ _).symm.trans H; with_reducible exact H2_) | with_reducible exact H | (rw [hy129]; exact H) | exact H
                    have Ny129 := Aside0.mk hy129
                    clear hy129
                    by_cases c33 : y126.length + y129.length < 17592186044416
                    ·rw [if_pos c33] at H
                     have LMc33 := Aside0.mk c33
                     clear c33
                     obtain ⟨y133, hy133⟩ : ∃ y_ : List Int, y_ = (y126 ++ y129) := ⟨_, rfl⟩
                     replace H : (ferruleref12_Clean.l0 k3 l0 y133 (wrap64 (x5_1 + 1))) = some (r1, r2) := by first | (rw [hy133]; with_reducible exact H) | (have H2_ := (Option.bind_some _ _).symm.trans H; rw [hy133]; with_reducible exact H2_) | (have H2_ := (Option.bind_some _ _).symm.trans H; with_reducible exact H2_) | with_reducible exact H | (rw [hy133]; exact H) | exact H
                     have Ny133 := Aside0.mk hy133
                     clear hy133
                     have H' := Aside0.mk H
                     clear H
                     try go_wp2
                     replace HO_4 := Aside0.mk (Kd.R_drew HO_4.out)
                     replace HB := Aside0.mk (below_drew1 HB.out)
                     obtain ⟨Ao35, co35, eo35⟩ := Kd.R_slice HO_4.out
                     (first | subst eo35 | (injection eo35 with f1_ f2_ f3_; have f4_ := f1_.symm; have f5_ := f3_.symm; clear f1_ f2_ f3_; subst f4_; subst f5_))
                     have p108 : 0 ≤ (x6_3 : Int) := oD
                     have q108 : x6_3 < (x4_1.length : Int) := oD
                     obtain ⟨ad108, e108, hx108_0⟩ := Kd.at_int (Kd.R_reads' HO_4.out).2.2 x6_3 p108 q108
                     cases e108
                     replace p108 := eq_true p108
                     replace q108 := eq_true q108
                     have p110 : 0 ≤ (x5_1 : Int) := oD
                     have q110 : x5_1 < (l0.length : Int) := oD
                     obtain ⟨ad110, e110, hx110_0⟩ := Kd.at_int HR0.out x5_1 p110 q110
                     have hw110_0 := hx110_0
                     obtain rfl : ad106 = ad110 := (by injection e110)
                     replace hx110_0 := (HB.out.cell (World.block_lt_of_cell? w _ hx110_0)).trans hx110_0
                     replace p110 := eq_true p110
                     replace q110 := eq_true q110
                     refine start_ (n := 17) (S := fun w' => w'.cell? (ad108.add (x6_3).toNat) = some (.int .i64 (rd x4_1 x6_3)) ∧ w'.cell? (ad106.add (x5_1).toNat) = some (.int .i64 (rd l0 x5_1))) (ds := []) #[false, false, false, false, false, false, false, false, false, false, false, false, false, false, false, false, false] (by kernel_rfl) rfl rfl ⟨hx108_0, ((HB.out.cell (World.block_lt_of_cell? w _ hw110_0)).trans hw110_0)⟩ (fun hHeld => ?_); refine with_tabW ferruleref12_Clean.tab9 ferruleref12_Clean.bits9 (fun HT_ HW_ => ?_)
                     generalize wr.drew = w34 at HO_4 HB hx108_0 hx110_0 hHeld ⊢
                     refine pV 0 36 rfl rfl ?_
                     refine pV 1 37 rfl rfl ?_
                     refine pV 2 38 rfl rfl ?_
                     refine pV 3 39 rfl rfl ?_
                     refine pV 4 40 rfl rfl ?_
                     refine pV 5 41 rfl rfl ?_
                     refine pV 6 42 rfl rfl ?_
                     refine pV 7 43 rfl rfl ?_
                     refine pV 10 46 rfl rfl ?_
                     refine pV 11 47 rfl rfl ?_
                     refine pV 12 48 rfl rfl ?_
                     refine tV 8 44 rfl rfl ?_
                     refine tV 13 49 rfl rfl ?_
                     refine one_ (i := 9) (N := some 45) #[true, true, true, true, true, true, true, true, true, true, true, true, true, true, false, false, false] rfl rfl (one_of HT_.out (by kernel_rfl)) (by decide) (fun K hK => ?_)
                     refine goes_ Try.func72 (by kernel_rfl) rfl #[.int .i64 (rd x4_1 x6_3)] (by rfl) rfl rfl bM ?_
                     with_reducible refine (ferruleref12_Var.calls k3 (rd x4_1 x6_3) t109 _ A20.out).mono ?_
                     rintro e w' ⟨rfl, ⟨nd, rfl⟩⟩
                     refine ⟨_, rfl, ?_⟩
                     refine hK.out _ _ ⟨hHeld.1, ((HB.out.cell (World.block_lt_of_cell? w _ hw110_0)).trans hw110_0)⟩ (fun hHeld => ?_)
                     clear hK K
                     refine norm_ (a' := ?_) ?_ ?_
                     rotate_left
                     ·show Act.put _ (some 45) _ = _
                      simp only [Act.put, List.setIfInBounds_toArray, List.set_cons_zero, List.set_cons_succ, i64_w, i32_w]
                      rfl
                     refine one_ (i := 14) (N := some 50) #[true, true, true, true, true, true, true, true, true, true, true, true, true, true, true, false, false] rfl rfl (one_of HT_.out (by kernel_rfl)) (by decide) (fun K hK => ?_)
                     refine goes_ Try.func72 (by kernel_rfl) rfl #[.int .i64 (rd l0 x5_1)] (by rfl) rfl rfl bM ?_
                     with_reducible refine (ferruleref12_Var.calls k3 (rd l0 x5_1) t111 _ A23.out).mono ?_
                     rintro e w' ⟨rfl, ⟨nd, rfl⟩⟩
                     refine ⟨_, rfl, ?_⟩
                     refine hK.out _ _ ⟨hHeld.1, ((HB.out.cell (World.block_lt_of_cell? w _ hw110_0)).trans hw110_0)⟩ (fun hHeld => ?_)
                     clear hK K
                     refine norm_ (a' := ?_) ?_ ?_
                     rotate_left
                     ·show Act.put _ (some 50) _ = _
                      simp only [Act.put, List.setIfInBounds_toArray, List.set_cons_zero, List.set_cons_succ, i64_w, i32_w]
                      rfl
                     refine pV 15 51 rfl rfl ?_
                     refine pV 16 52 rfl rfl ?_
                     refine done_ (done_of HT_.out (by kernel_rfl)) ?_
                     try go_wp2
                     (try (rw [drewN_self w34]; generalize hq_ : World.drewN w34 _ = w34; have n0_ : Aside0 (Kd.R (Kd.int .i64) 3 w34 w.heap.size (fun _ => True) (.slice (some ad108) x4_1.length co35) x4_1) := ⟨by rw [← hq_]; exact (aRw HO_4)⟩; have n1_ : Aside0 (Below w.heap.size w w34) := ⟨by rw [← hq_]; exact bB⟩; clear HO_4 HB hq_; have HO_4 := n0_; have HB := n1_; clear n0_ n1_))
                     replace HO_4 := Aside0.mk (Kd.R_drew HO_4.out)
                     replace HB := Aside0.mk (below_drew1 HB.out)
                     have q37 : (x6_3 : Int) ≤ ((x4_1.length : Int) : Int) := oD
                     obtain ⟨i037, hi037, _, hsz37, _⟩ := info_parts info3
                     have hroom37 : x4_1.length ≤ co35 := (Kd.R_reads' HO_4.out).2.1
                     have hC37 : Kd.C (Kd.int .i64) _ (some ad108) x4_1.length x4_1 := (Kd.R_reads' HO_4.out).2.2
                     have hcut37 := cut_to (P := Try.prog) 22 3 .i64 Try.underlying22 hi037 (some ad108) x4_1.length co35 x6_3 oD q37 hroom37
                     have hr37 := Kd.C_take (m := (x6_3 : Int).toNat) hC37 (by omega)
                     have hy37 : y115.length = (x6_3 : Int).toNat := (by rw [Ny115.out, List.length_take]; omega)
                     rw [← Ny115.out] at hr37
                     rw [← hy37] at hcut37
                     have HR118 := Aside0.mk hr37
                     have HC118 := Aside0.mk (show y115.length ≤ co35 from by omega)
                     clear hr37 hC37 hroom37 hi037 hsz37
                     have KY37 := Aside0.mk hy37
                     clear hy37
                     have KL37 := Aside0.mk (show (x6_3 : Int).toNat ≤ x4_1.length from by omega)
                     replace q37 := eq_true q37
                     have p122 : 0 ≤ (x5_1 : Int) := oD
                     have q122 : x5_1 < (l0.length : Int) := oD
                     obtain ⟨ad122, e122, hx122_0⟩ := Kd.at_int HR0.out x5_1 p122 q122
                     have hw122_0 := hx122_0
                     obtain rfl : ad106 = ad122 := (by injection e122)
                     replace hx122_0 := (HB.out.cell (World.block_lt_of_cell? w _ hx122_0)).trans hx122_0
                     replace p122 := eq_true p122
                     replace q122 := eq_true q122
                     have q38 : (x6_3 : Int) ≤ ((x4_1.length : Int) : Int) := oD
                     obtain ⟨i038, hi038, _, hsz38, _⟩ := info_parts info3
                     have hroom38 : x4_1.length ≤ co35 := (Kd.R_reads' HO_4.out).2.1
                     have hC38 : Kd.C (Kd.int .i64) _ (some ad108) x4_1.length x4_1 := (Kd.R_reads' HO_4.out).2.2
                     have q038 : (0 : Int) ≤ (x6_3 : Int) := oD
                     have hcut38 := cut_from (P := Try.prog) 22 3 .i64 Try.underlying22 hi038 1 hsz38 (some ad108) x4_1.length co35 x6_3 q038 q38
                     have hr38 := Kd.C_drop (m := (x6_3 : Int).toNat) (c := co35) hC38 (by omega) hroom38
                     obtain ⟨A38, hA38⟩ : ∃ A1, A1 = (if co35 = (x6_3 : Int).toNat then (some ad108) else ((some ad108) : Option Addr).map (·.add ((x6_3 : Int).toNat * 1))) := ⟨_, rfl⟩
                     obtain ⟨c38, hc38⟩ : ∃ c1, c1 = co35 - (x6_3 : Int).toNat := ⟨_, rfl⟩
                     have hy38 : y129.length = x4_1.length - (x6_3 : Int).toNat := (by rw [Ny129.out, List.length_drop] <;> omega)
                     rw [show (x4_1).drop (x6_3 : Int).toNat = y129 from Ny129.out.symm] at hr38
                     replace hr38 : Kd.C (Kd.int .i64) _ A38 y129.length y129 := (by rw [hA38]; exact hr38)
                     rw [← hy38, ← hA38, ← hc38] at hcut38
                     have HR132 := Aside0.mk hr38
                     have HC132 := Aside0.mk (show y129.length ≤ c38 from by rw [hy38, hc38]; exact Nat.sub_le_sub_right hroom38 _)
                     clear hr38 hC38 hroom38 hi038 hsz38 hc38
                     have KY38 := Aside0.mk hy38
                     have KA38 := Aside0.mk hA38
                     clear hy38 hA38
                     have KL38 := Aside0.mk (show (x6_3 : Int).toNat ≤ x4_1.length from by omega)
                     replace q38 := eq_true q38
                     refine start_ (n := 16) (S := fun w' => w'.cell? (ad106.add (x5_1).toNat) = some (.int .i64 (rd l0 x5_1))) (ds := []) #[false, false, false, false, false, false, false, false, false, false, false, false, false, false, false, false] (by kernel_rfl) rfl rfl (((HB.out.cell (World.block_lt_of_cell? w _ hw122_0)).trans hw122_0)) (fun hHeld => ?_); refine with_tabW ferruleref12_Clean.tab11 ferruleref12_Clean.bits11 (fun HT_ HW_ => ?_)
                     generalize w34.drew = w36 at HO_4 HB HR118 HR132 hx122_0 hHeld ⊢
                     refine pV 1 56 rfl rfl ?_
                     refine pV 2 57 rfl rfl ?_
                     refine pV 3 58 rfl rfl ?_
                     refine pV 5 60 rfl rfl ?_
                     refine pV 6 61 rfl rfl ?_
                     refine pV 7 62 rfl rfl ?_
                     refine pV 11 66 rfl rfl ?_
                     refine pV 12 67 rfl rfl ?_
                     refine pV 13 68 rfl rfl ?_
                     refine take_ (i := 8) (N := some 63) (v := ?_) (a' := ?_) #[false, true, true, true, false, true, true, true, true, false, false, true, true, true, false, false] rfl rfl (take_ofW HT_.out HW_.out (by kernel_rfl)) (fun _ _ _ h => h) (Or.inl ⟨by rfl, ?_⟩) hHeld ?_ ?_
                     rotate_left
                     ·intro w' s0
                      go_simp
                      with_reducible rfl
                     rotate_left
                     ·simp only [Act.put, List.setIfInBounds_toArray, List.set_cons_zero, List.set_cons_succ, i64_w, i32_w]
                      rfl
                     refine join_ (σ := Value × Value × Value) 3 #[true, true, true, true, true, true, true, true, true, true, false, true, true, true, false, false] (fun s_ => [(55, s_.1), (59, s_.2.1), (64, s_.2.2)]) (fun s_ w' => (w'.cell? (ad106.add (x5_1).toNat) = some (.int .i64 (rd l0 x5_1))) ∧ (Kd.R (Kd.int .i64) 3 w' w.heap.size (fun k_ => some k_ ≠ (s_.2.2 : Value).ownBlock ∧ some k_ ≠ (.slice (some ad108) x4_1.length co35 : Value).ownBlock) s_.2.1 y119) ∧ (Kd.R (Kd.int .i64) 3 w' w.heap.size (fun k_ => some k_ ≠ (s_.2.1 : Value).ownBlock ∧ some k_ ≠ (.slice (some ad108) x4_1.length co35 : Value).ownBlock) s_.2.2 y123) ∧ (Kd.R (Kd.int .i64) 3 w' w.heap.size (fun k_ => some k_ ≠ (s_.2.1 : Value).ownBlock ∧ some k_ ≠ (s_.2.2 : Value).ownBlock) (.slice (some ad108) x4_1.length co35) x4_1) ∧ (Below w.heap.size w w')) ?_ ?_
                     rotate_left
                     ·intro hCont
                      refine two_ (i := 0) (j := 9) (Ni := some 55) (Nj := some 64) #[true, true, true, true, false, true, true, true, true, false, false, true, true, true, false, false] #[false, true, true, true, false, true, true, true, true, true, false, true, true, true, false, false] rfl rfl rfl rfl (two_of HT_.out (by kernel_rfl)) (by decide) (by decide) (fun K hK => ?_) (fun K hK => ?_)
                      ·skip
                       refine Kd.R_lit_step (Kd.int .i64) _ 3 ?hg (N := 55) ?hd (xs := ([] : List Int)) (inner := []) (ok := fun _ => True) (okp := fun _ => True) ?hr ?hp (fun _ hk => hk) trivial (Below.refl _ _) (Nat.le_refl _) (by simp) ?_; (case hd => rfl); (case hg => rfl); (case hr => first | (go_simp; done) | (go_simp; rfl)); (case hp => exact (Reps.none _ _))
                       intro v113 w39 ho40 hb hg_ hnew_
                       clear hg_ hnew_
                       (first | rw [← Ny112.out] at ho40 | (simp only [Int.reduceToNat] at ho40; rw [← Ny112.out] at ho40))
                       have HO114 := aN ho40 HO_4 HB
                       replace HO_4 := aE HO_4 ho40 hb
                       replace HR118 := aC HR118 hb
                       replace HR132 := aC HR132 hb
                       replace HB := aB HB hb
                       clear hb ho40
                       refine hK.out _ _ (((HB.out.cell (World.block_lt_of_cell? w _ hw122_0)).trans hw122_0)) (fun hHeld => ?_)
                       clear hK K
                       refine norm_ (a' := ?_) ?_ ?_
                       rotate_left
                       ·show Act.put _ (some 55) _ = _
                        simp only [Act.put, List.setIfInBounds_toArray, List.set_cons_zero, List.set_cons_succ, i64_w, i32_w]
                        rfl
                       refine two_ (i := 4) (j := 9) (Ni := some 59) (Nj := some 64) #[true, true, true, true, true, true, true, true, true, false, false, true, true, true, false, false] #[true, true, true, true, false, true, true, true, true, true, false, true, true, true, false, false] rfl rfl rfl rfl (two_of HT_.out (by kernel_rfl)) (by decide) (by decide) (fun K hK => ?_) (fun K hK => ?_)
                       ·skip
                        refine Kd.R_append_rows_step (Kd.int .i64) (w0 := w) w.heap.size (by rfl) (.tmp 55) (.tmp 58) 22 3 (.int .i64 0) 8 rfl Try.underlying22 info3 rfl (by decide) (by omega) v113 y112 y115 _ _ _ (fun k_ => some k_ ≠ (.slice (some ad108) x4_1.length co35 : Value).ownBlock) (fun _ => False) rfl rfl ?aO ?aR (fun _ _ h => h) (fun _ h => h.elim) ?aF ?aB ?aS ?aL ?_
                        (case aR => exact aCw HR118)
                        (case aB => exact bB)
                        (case aF => exact (fun k_ hk => Kd.fresh' (Kd.R_lt (aRw HO_4)) k_ hk))
                        (case aO => exact (by (with_reducible repeat (first | apply Kd.R_alloc | apply Kd.R_drewN | apply Kd.R_drew)); exact Kd.R_mono HO114.out (fun _ hk => hk.2)))
                        (case aS => exact (below_size bB))
                        (case aL => have := LMc29.out; omega)
                        intro v120 w41 ho hb hg hat
                        rw [← Ny119.out] at ho
                        replace HB := Aside0.mk hb
                        replace HR118 := Aside0.mk ((show Kd.C (Kd.int .i64) w41 (some ad108) y115.length y115 from by rw [Ny115.out]; exact Kd.C_take (m := (x6_3 : Int).toNat) ((Kd.R_reads' (Kd.R_after (ok := (fun _ => True)) (aRw HO_4) hg hat)).2.2) KL37.out))
                        replace HR132 := Aside0.mk ((show Kd.C (Kd.int .i64) w41 A38 y129.length y129 from by rw [Ny129.out, KA38.out]; exact Kd.C_drop (m := (x6_3 : Int).toNat) (c := co35) ((Kd.R_reads' (Kd.R_after (ok := (fun _ => True)) (aRw HO_4) hg hat)).2.2) KL38.out ((Kd.R_reads' (Kd.R_after (ok := (fun _ => True)) (aRw HO_4) hg hat)).2.1)))
                        replace HO_4 := Aside0.mk (Kd.R_after (ok := (fun _ => True)) (aRw HO_4) hg hat)
                        have HO121 := Aside0.mk ho
                        clear HO114
                        clear ho hb hg hat
                        refine hK.out _ _ (((HB.out.cell (World.block_lt_of_cell? w _ hw122_0)).trans hw122_0)) (fun hHeld => ?_)
                        clear hK K
                        refine norm_ (a' := ?_) ?_ ?_
                        rotate_left
                        ·show Act.put _ (some 59) _ = _
                         simp only [Act.put, List.setIfInBounds_toArray, List.set_cons_zero, List.set_cons_succ, i64_w, i32_w]
                         rfl
                        refine one_ (i := 9) (N := some 64) #[true, true, true, true, true, true, true, true, true, true, false, true, true, true, false, false] rfl rfl (one_of HT_.out (by kernel_rfl)) (by decide) (fun K hK => ?_)
                        refine Kd.R_lit_step (Kd.int .i64) _ 3 ?hg (N := 64) ?hd (xs := ([rd l0 x5_1] : List Int)) (inner := [.int .i64 (rd l0 x5_1)]) (ok := fun _ => True) (okp := fun _ => True) ?hr ?hp (fun _ hk => hk) trivial (Below.refl _ _) (Nat.le_refl _) (by simp) ?_; (case hd => rfl); (case hg => rfl); (case hr => first | (go_simp; done) | (go_simp; rfl)); (case hp => exact (Reps.one (show Kd.M (Kd.int .i64) _ _ _ (rd l0 x5_1) [.int .i64 (rd l0 x5_1)] from rfl) (Reps.none _ _)))
                        intro v124 w42 ho43 hb hg_ hnew_
                        clear hg_ hnew_
                        (first | rw [← Ny123.out] at ho43 | (simp only [Int.reduceToNat] at ho43; rw [← Ny123.out] at ho43))
                        have HO125 := Aside0.mk (Kd.R_lower (Kd.R_new' (Kd.R_new' ho43 (Kd.R_lt (aRw HO_4))) (Kd.R_lt (aRw HO121))) (below_size bB))
                        replace HO_4 := aE HO_4 ho43 hb
                        replace HO121 := aE HO121 ho43 hb
                        replace HR118 := aC HR118 hb
                        replace HR132 := aC HR132 hb
                        replace HB := aB HB hb
                        clear hb ho43
                        refine hK.out _ _ (((HB.out.cell (World.block_lt_of_cell? w _ hw122_0)).trans hw122_0)) (fun hHeld => ?_)
                        clear hK K
                        refine norm_ (a' := ?_) ?_ ?_
                        rotate_left
                        ·show Act.put _ (some 64) _ = _
                         simp only [Act.put, List.setIfInBounds_toArray, List.set_cons_zero, List.set_cons_succ, i64_w, i32_w]
                         rfl
                        exact norm_ (by simp only [putAll, Act.put, List.setIfInBounds_toArray, List.set_cons_zero, List.set_cons_succ]) (hCont (v113, v120, v124) _ ⟨hHeld, (by (with_reducible repeat (first | apply Kd.R_alloc | apply Kd.R_drewN | apply Kd.R_drew)); exact Kd.R_mono HO121.out bK), (by (with_reducible repeat (first | apply Kd.R_alloc | apply Kd.R_drewN | apply Kd.R_drew)); exact Kd.R_mono HO125.out bK), (by (with_reducible repeat (first | apply Kd.R_alloc | apply Kd.R_drewN | apply Kd.R_drew)); exact Kd.R_mono HO_4.out bK), bB⟩)
                       ·skip
                        refine Kd.R_lit_step (Kd.int .i64) _ 3 ?hg (N := 64) ?hd (xs := ([rd l0 x5_1] : List Int)) (inner := [.int .i64 (rd l0 x5_1)]) (ok := fun _ => True) (okp := fun _ => True) ?hr ?hp (fun _ hk => hk) trivial (Below.refl _ _) (Nat.le_refl _) (by simp) ?_; (case hd => rfl); (case hg => rfl); (case hr => first | (go_simp; done) | (go_simp; rfl)); (case hp => exact (Reps.one (show Kd.M (Kd.int .i64) _ _ _ (rd l0 x5_1) [.int .i64 (rd l0 x5_1)] from rfl) (Reps.none _ _)))
                        intro v124 w41 ho42 hb hg_ hnew_
                        clear hg_ hnew_
                        (first | rw [← Ny123.out] at ho42 | (simp only [Int.reduceToNat] at ho42; rw [← Ny123.out] at ho42))
                        have HO125 := Aside0.mk (Kd.R_lower (Kd.R_new' (Kd.R_new' ho42 (Kd.R_lt (aRw HO_4))) (Kd.R_lt (aRw HO114))) (below_size bB))
                        replace HO_4 := aE HO_4 ho42 hb
                        replace HO114 := aE HO114 ho42 hb
                        replace HR118 := aC HR118 hb
                        replace HR132 := aC HR132 hb
                        replace HB := aB HB hb
                        clear hb ho42
                        refine hK.out _ _ (((HB.out.cell (World.block_lt_of_cell? w _ hw122_0)).trans hw122_0)) (fun hHeld => ?_)
                        clear hK K
                        refine norm_ (a' := ?_) ?_ ?_
                        rotate_left
                        ·show Act.put _ (some 64) _ = _
                         simp only [Act.put, List.setIfInBounds_toArray, List.set_cons_zero, List.set_cons_succ, i64_w, i32_w]
                         rfl
                        refine one_ (i := 4) (N := some 59) #[true, true, true, true, true, true, true, true, true, true, false, true, true, true, false, false] rfl rfl (one_of HT_.out (by kernel_rfl)) (by decide) (fun K hK => ?_)
                        refine Kd.R_append_rows_step (Kd.int .i64) (w0 := w) w.heap.size (by rfl) (.tmp 55) (.tmp 58) 22 3 (.int .i64 0) 8 rfl Try.underlying22 info3 rfl (by decide) (by omega) v113 y112 y115 _ _ _ (fun k_ => some k_ ≠ (.slice (some ad108) x4_1.length co35 : Value).ownBlock ∧ some k_ ≠ (v124 : Value).ownBlock) (fun _ => False) rfl rfl ?aO ?aR (fun _ _ h => h) (fun _ h => h.elim) ?aF ?aB ?aS ?aL ?_
                        (case aR => exact aCw HR118)
                        (case aB => exact bB)
                        (case aF => exact (fun k_ hk => ⟨Kd.fresh' (Kd.R_lt (aRw HO_4)) k_ hk, Kd.fresh' (Kd.R_lt (aRw HO125)) k_ hk⟩))
                        (case aO => exact (by (with_reducible repeat (first | apply Kd.R_alloc | apply Kd.R_drewN | apply Kd.R_drew)); exact Kd.R_mono HO114.out bK))
                        (case aS => exact (below_size bB))
                        (case aL => have := LMc29.out; omega)
                        intro v120 w43 ho hb hg hat
                        rw [← Ny119.out] at ho
                        replace HO125 := Aside0.mk (Kd.R_after (ok := (fun k_ => some k_ ≠ (.slice (some ad108) x4_1.length co35 : Value).ownBlock)) (by (with_reducible repeat (first | apply Kd.R_alloc | apply Kd.R_drewN | apply Kd.R_drew)); exact Kd.R_mono HO125.out bK) hg hat)
                        replace HB := Aside0.mk hb
                        replace HR118 := Aside0.mk ((show Kd.C (Kd.int .i64) w43 (some ad108) y115.length y115 from by rw [Ny115.out]; exact Kd.C_take (m := (x6_3 : Int).toNat) ((Kd.R_reads' (Kd.R_after (ok := (fun k_ => some k_ ≠ (v124 : Value).ownBlock)) (by (with_reducible repeat (first | apply Kd.R_alloc | apply Kd.R_drewN | apply Kd.R_drew)); exact Kd.R_mono HO_4.out bK) hg hat)).2.2) KL37.out))
                        replace HR132 := Aside0.mk ((show Kd.C (Kd.int .i64) w43 A38 y129.length y129 from by rw [Ny129.out, KA38.out]; exact Kd.C_drop (m := (x6_3 : Int).toNat) (c := co35) ((Kd.R_reads' (Kd.R_after (ok := (fun k_ => some k_ ≠ (v124 : Value).ownBlock)) (by (with_reducible repeat (first | apply Kd.R_alloc | apply Kd.R_drewN | apply Kd.R_drew)); exact Kd.R_mono HO_4.out bK) hg hat)).2.2) KL38.out ((Kd.R_reads' (Kd.R_after (ok := (fun k_ => some k_ ≠ (v124 : Value).ownBlock)) (by (with_reducible repeat (first | apply Kd.R_alloc | apply Kd.R_drewN | apply Kd.R_drew)); exact Kd.R_mono HO_4.out bK) hg hat)).2.1)))
                        replace HO_4 := Aside0.mk (Kd.R_after (ok := (fun k_ => some k_ ≠ (v124 : Value).ownBlock)) (by (with_reducible repeat (first | apply Kd.R_alloc | apply Kd.R_drewN | apply Kd.R_drew)); exact Kd.R_mono HO_4.out bK) hg hat)
                        have HO121 := Aside0.mk ho
                        clear HO114
                        clear ho hb hg hat
                        refine hK.out _ _ (((HB.out.cell (World.block_lt_of_cell? w _ hw122_0)).trans hw122_0)) (fun hHeld => ?_)
                        clear hK K
                        refine norm_ (a' := ?_) ?_ ?_
                        rotate_left
                        ·show Act.put _ (some 59) _ = _
                         simp only [Act.put, List.setIfInBounds_toArray, List.set_cons_zero, List.set_cons_succ, i64_w, i32_w]
                         rfl
                        exact norm_ (by simp only [putAll, Act.put, List.setIfInBounds_toArray, List.set_cons_zero, List.set_cons_succ]) (hCont (v113, v120, v124) _ ⟨hHeld, (by (with_reducible repeat (first | apply Kd.R_alloc | apply Kd.R_drewN | apply Kd.R_drew)); exact Kd.R_mono HO121.out bK), (by (with_reducible repeat (first | apply Kd.R_alloc | apply Kd.R_drewN | apply Kd.R_drew)); exact Kd.R_mono HO125.out bK), (by (with_reducible repeat (first | apply Kd.R_alloc | apply Kd.R_drewN | apply Kd.R_drew)); exact Kd.R_mono HO_4.out bK), bB⟩)
                      ·skip
                       refine Kd.R_lit_step (Kd.int .i64) _ 3 ?hg (N := 64) ?hd (xs := ([rd l0 x5_1] : List Int)) (inner := [.int .i64 (rd l0 x5_1)]) (ok := fun _ => True) (okp := fun _ => True) ?hr ?hp (fun _ hk => hk) trivial (Below.refl _ _) (Nat.le_refl _) (by simp) ?_; (case hd => rfl); (case hg => rfl); (case hr => first | (go_simp; done) | (go_simp; rfl)); (case hp => exact (Reps.one (show Kd.M (Kd.int .i64) _ _ _ (rd l0 x5_1) [.int .i64 (rd l0 x5_1)] from rfl) (Reps.none _ _)))
                       intro v124 w39 ho40 hb hg_ hnew_
                       clear hg_ hnew_
                       (first | rw [← Ny123.out] at ho40 | (simp only [Int.reduceToNat] at ho40; rw [← Ny123.out] at ho40))
                       have HO125 := aN ho40 HO_4 HB
                       replace HO_4 := aE HO_4 ho40 hb
                       replace HR118 := aC HR118 hb
                       replace HR132 := aC HR132 hb
                       replace HB := aB HB hb
                       clear hb ho40
                       refine hK.out _ _ (((HB.out.cell (World.block_lt_of_cell? w _ hw122_0)).trans hw122_0)) (fun hHeld => ?_)
                       clear hK K
                       refine norm_ (a' := ?_) ?_ ?_
                       rotate_left
                       ·show Act.put _ (some 64) _ = _
                        simp only [Act.put, List.setIfInBounds_toArray, List.set_cons_zero, List.set_cons_succ, i64_w, i32_w]
                        rfl
                       refine one_ (i := 0) (N := some 55) #[true, true, true, true, false, true, true, true, true, true, false, true, true, true, false, false] rfl rfl (one_of HT_.out (by kernel_rfl)) (by decide) (fun K hK => ?_)
                       refine Kd.R_lit_step (Kd.int .i64) _ 3 ?hg (N := 55) ?hd (xs := ([] : List Int)) (inner := []) (ok := fun _ => True) (okp := fun _ => True) ?hr ?hp (fun _ hk => hk) trivial (Below.refl _ _) (Nat.le_refl _) (by simp) ?_; (case hd => rfl); (case hg => rfl); (case hr => first | (go_simp; done) | (go_simp; rfl)); (case hp => exact (Reps.none _ _))
                       intro v113 w41 ho42 hb hg_ hnew_
                       clear hg_ hnew_
                       (first | rw [← Ny112.out] at ho42 | (simp only [Int.reduceToNat] at ho42; rw [← Ny112.out] at ho42))
                       have HO114 := Aside0.mk (Kd.R_lower (Kd.R_new' (Kd.R_new' ho42 (Kd.R_lt (aRw HO_4))) (Kd.R_lt (aRw HO125))) (below_size bB))
                       replace HO_4 := aE HO_4 ho42 hb
                       replace HO125 := aE HO125 ho42 hb
                       replace HR118 := aC HR118 hb
                       replace HR132 := aC HR132 hb
                       replace HB := aB HB hb
                       clear hb ho42
                       refine hK.out _ _ (((HB.out.cell (World.block_lt_of_cell? w _ hw122_0)).trans hw122_0)) (fun hHeld => ?_)
                       clear hK K
                       refine norm_ (a' := ?_) ?_ ?_
                       rotate_left
                       ·show Act.put _ (some 55) _ = _
                        simp only [Act.put, List.setIfInBounds_toArray, List.set_cons_zero, List.set_cons_succ, i64_w, i32_w]
                        rfl
                       refine one_ (i := 4) (N := some 59) #[true, true, true, true, true, true, true, true, true, true, false, true, true, true, false, false] rfl rfl (one_of HT_.out (by kernel_rfl)) (by decide) (fun K hK => ?_)
                       refine Kd.R_append_rows_step (Kd.int .i64) (w0 := w) w.heap.size (by rfl) (.tmp 55) (.tmp 58) 22 3 (.int .i64 0) 8 rfl Try.underlying22 info3 rfl (by decide) (by omega) v113 y112 y115 _ _ _ (fun k_ => some k_ ≠ (.slice (some ad108) x4_1.length co35 : Value).ownBlock ∧ some k_ ≠ (v124 : Value).ownBlock) (fun _ => False) rfl rfl ?aO ?aR (fun _ _ h => h) (fun _ h => h.elim) ?aF ?aB ?aS ?aL ?_
                       (case aR => exact aCw HR118)
                       (case aB => exact bB)
                       (case aF => exact (fun k_ hk => ⟨Kd.fresh' (Kd.R_lt (aRw HO_4)) k_ hk, Kd.fresh' (Kd.R_lt (aRw HO125)) k_ hk⟩))
                       (case aO => exact (by (with_reducible repeat (first | apply Kd.R_alloc | apply Kd.R_drewN | apply Kd.R_drew)); exact Kd.R_mono HO114.out bK))
                       (case aS => exact (below_size bB))
                       (case aL => have := LMc29.out; omega)
                       intro v120 w43 ho hb hg hat
                       rw [← Ny119.out] at ho
                       replace HO125 := Aside0.mk (Kd.R_after (ok := (fun k_ => some k_ ≠ (.slice (some ad108) x4_1.length co35 : Value).ownBlock)) (by (with_reducible repeat (first | apply Kd.R_alloc | apply Kd.R_drewN | apply Kd.R_drew)); exact Kd.R_mono HO125.out bK) hg hat)
                       replace HB := Aside0.mk hb
                       replace HR118 := Aside0.mk ((show Kd.C (Kd.int .i64) w43 (some ad108) y115.length y115 from by rw [Ny115.out]; exact Kd.C_take (m := (x6_3 : Int).toNat) ((Kd.R_reads' (Kd.R_after (ok := (fun k_ => some k_ ≠ (v124 : Value).ownBlock)) (by (with_reducible repeat (first | apply Kd.R_alloc | apply Kd.R_drewN | apply Kd.R_drew)); exact Kd.R_mono HO_4.out bK) hg hat)).2.2) KL37.out))
                       replace HR132 := Aside0.mk ((show Kd.C (Kd.int .i64) w43 A38 y129.length y129 from by rw [Ny129.out, KA38.out]; exact Kd.C_drop (m := (x6_3 : Int).toNat) (c := co35) ((Kd.R_reads' (Kd.R_after (ok := (fun k_ => some k_ ≠ (v124 : Value).ownBlock)) (by (with_reducible repeat (first | apply Kd.R_alloc | apply Kd.R_drewN | apply Kd.R_drew)); exact Kd.R_mono HO_4.out bK) hg hat)).2.2) KL38.out ((Kd.R_reads' (Kd.R_after (ok := (fun k_ => some k_ ≠ (v124 : Value).ownBlock)) (by (with_reducible repeat (first | apply Kd.R_alloc | apply Kd.R_drewN | apply Kd.R_drew)); exact Kd.R_mono HO_4.out bK) hg hat)).2.1)))
                       replace HO_4 := Aside0.mk (Kd.R_after (ok := (fun k_ => some k_ ≠ (v124 : Value).ownBlock)) (by (with_reducible repeat (first | apply Kd.R_alloc | apply Kd.R_drewN | apply Kd.R_drew)); exact Kd.R_mono HO_4.out bK) hg hat)
                       have HO121 := Aside0.mk ho
                       clear HO114
                       clear ho hb hg hat
                       refine hK.out _ _ (((HB.out.cell (World.block_lt_of_cell? w _ hw122_0)).trans hw122_0)) (fun hHeld => ?_)
                       clear hK K
                       refine norm_ (a' := ?_) ?_ ?_
                       rotate_left
                       ·show Act.put _ (some 59) _ = _
                        simp only [Act.put, List.setIfInBounds_toArray, List.set_cons_zero, List.set_cons_succ, i64_w, i32_w]
                        rfl
                       exact norm_ (by simp only [putAll, Act.put, List.setIfInBounds_toArray, List.set_cons_zero, List.set_cons_succ]) (hCont (v113, v120, v124) _ ⟨hHeld, (by (with_reducible repeat (first | apply Kd.R_alloc | apply Kd.R_drewN | apply Kd.R_drew)); exact Kd.R_mono HO121.out bK), (by (with_reducible repeat (first | apply Kd.R_alloc | apply Kd.R_drewN | apply Kd.R_drew)); exact Kd.R_mono HO125.out bK), (by (with_reducible repeat (first | apply Kd.R_alloc | apply Kd.R_drewN | apply Kd.R_drew)); exact Kd.R_mono HO_4.out bK), bB⟩)
                     rintro ⟨v113, v120, v124⟩ w44 ⟨hS_, h0_, h1_, h2_, h3_⟩
                     have n0_ : Aside0 (Kd.R (Kd.int .i64) 3 w44 w.heap.size (fun k_ => some k_ ≠ (v124 : Value).ownBlock ∧ some k_ ≠ (.slice (some ad108) x4_1.length co35 : Value).ownBlock) v120 y119) := ⟨h0_⟩
                     have n1_ : Aside0 (Kd.R (Kd.int .i64) 3 w44 w.heap.size (fun k_ => some k_ ≠ (v120 : Value).ownBlock ∧ some k_ ≠ (.slice (some ad108) x4_1.length co35 : Value).ownBlock) v124 y123) := ⟨h1_⟩
                     have n2_ : Aside0 (Kd.R (Kd.int .i64) 3 w44 w.heap.size (fun k_ => some k_ ≠ (v120 : Value).ownBlock ∧ some k_ ≠ (v124 : Value).ownBlock) (.slice (some ad108) x4_1.length co35) x4_1) := ⟨h2_⟩
                     have n3_ : Aside0 (Below w.heap.size w w44) := ⟨h3_⟩
                     clear HO_4
                     clear HB
                     clear h0_ h1_ h2_ h3_
                     have HO121 := n0_
                     have HO125 := n1_
                     have HO_4 := n2_
                     have HB := n3_
                     clear n0_ n1_ n2_ n3_
                     have hHeld : w44.cell? (ad106.add (x5_1).toNat) = some (.int .i64 (rd l0 x5_1)) := hS_
                     obtain ⟨Ao46, co46, eo46⟩ := Kd.R_slice HO125.out
                     (first | subst eo46 | (injection eo46 with f1_ f2_ f3_; have f4_ := f1_.symm; have f5_ := f3_.symm; clear f1_ f2_ f3_; subst f4_; subst f5_))
                     refine norm_ (a' := ?_) ?_ ?_
                     rotate_left
                     ·simp only [putAll, Act.put, List.setIfInBounds_toArray, List.set_cons_zero, List.set_cons_succ]
                      rfl
                     refine one_ (i := 10) (N := some 65) #[true, true, true, true, true, true, true, true, true, true, true, true, true, true, false, false] rfl rfl (one_of HT_.out (by kernel_rfl)) (by decide) (fun K hK => ?_)
                     refine Kd.R_append_rows_step (Kd.int .i64) (w0 := w) w.heap.size (by rfl) (.tmp 59) (.tmp 64) 22 3 (.int .i64 0) 8 rfl Try.underlying22 info3 rfl (by decide) (by omega) v120 y119 y123 _ _ _ (fun k_ => some k_ ≠ (.slice (some ad108) x4_1.length co35 : Value).ownBlock ∧ some k_ ≠ ob Ao46 y123 co46) (fun _ => False) rfl rfl ?aO ?aR (fun _ _ h => h) (fun _ h => h.elim) ?aF ?aB ?aS ?aL ?_
                     (case aR => exact sW (Kd.R_reads' HO125.out).2.2)
                     (case aB => exact bB)
                     (case aF => exact (fun k_ hk => ⟨Kd.fresh' (Kd.R_lt (aRw HO_4)) k_ hk, Kd.fresh' (Kd.R_lt (aRw HO125)) k_ hk⟩))
                     (case aO => exact (by (with_reducible repeat (first | apply Kd.R_alloc | apply Kd.R_drewN | apply Kd.R_drew)); exact Kd.R_mono HO121.out bK))
                     (case aS => exact (below_size bB))
                     (case aL => have := LMc30.out; omega)
                     intro v127 w45 ho hb hg hat
                     rw [← Ny126.out] at ho
                     replace HO_4 := Aside0.mk (Kd.R_after (ok := (fun k_ => some k_ ≠ ob Ao46 y123 co46)) (by (with_reducible repeat (first | apply Kd.R_alloc | apply Kd.R_drewN | apply Kd.R_drew)); exact Kd.R_mono HO_4.out bK) hg hat)
                     replace HO125 := Aside0.mk (Kd.R_after (ok := (fun k_ => some k_ ≠ (.slice (some ad108) x4_1.length co35 : Value).ownBlock)) (by (with_reducible repeat (first | apply Kd.R_alloc | apply Kd.R_drewN | apply Kd.R_drew)); exact Kd.R_mono HO125.out bK) hg hat)
                     replace HB := Aside0.mk hb
                     have HO128 := Aside0.mk ho
                     clear HO121
                     clear ho hb hg hat
                     refine hK.out _ _ (((HB.out.cell (World.block_lt_of_cell? w _ hw122_0)).trans hw122_0)) (fun hHeld => ?_)
                     clear hK K
                     refine norm_ (a' := ?_) ?_ ?_
                     rotate_left
                     ·show Act.put _ (some 65) _ = _
                      simp only [Act.put, List.setIfInBounds_toArray, List.set_cons_zero, List.set_cons_succ, i64_w, i32_w]
                      rfl
                     refine one_ (i := 14) (N := some 69) #[true, true, true, true, true, true, true, true, true, true, true, true, true, true, true, false] rfl rfl (one_of HT_.out (by kernel_rfl)) (by decide) (fun K hK => ?_)
                     refine Kd.R_append_rows_step (Kd.int .i64) (w0 := w) w.heap.size (by rfl) (.tmp 65) (.tmp 68) 22 3 (.int .i64 0) 8 rfl Try.underlying22 info3 rfl (by decide) (by omega) v127 y126 y129 _ _ _ (fun k_ => some k_ ≠ (.slice (some ad108) x4_1.length co35 : Value).ownBlock ∧ some k_ ≠ ob Ao46 y123 co46) (fun _ => False) rfl rfl ?aO ?aR (fun _ _ h => h) (fun _ h => h.elim) ?aF ?aB ?aS ?aL ?_
                     (case aR => exact (show Kd.C (Kd.int .i64) _ A38 y129.length y129 from by rw [Ny129.out, KA38.out]; refine Kd.C_drop (m := (x6_3 : Int).toNat) (c := co35) ?_ KL38.out ((Kd.R_reads' HO_4.out).2.1); refine (Kd.R_reads' (e := 3) (base := w.heap.size) (ok := fun k_ => (some k_ ≠ ob Ao46 y123 co46 ∧ some k_ ≠ (v127 : Value).ownBlock)) (n := x4_1.length) (c := co35) ?_).2.2; exact (aRw HO_4)))
                     (case aB => exact bB)
                     (case aF => exact (fun k_ hk => ⟨Kd.fresh' (Kd.R_lt (aRw HO_4)) k_ hk, Kd.fresh' (Kd.R_lt (aRw HO125)) k_ hk⟩))
                     (case aO => exact (aRw HO128))
                     (case aS => exact (below_size bB))
                     (case aL => have := LMc33.out; omega)
                     intro v134 w47 ho hb hg hat
                     rw [← Ny133.out] at ho
                     replace HO_4 := Aside0.mk (Kd.R_after (ok := (fun k_ => some k_ ≠ ob Ao46 y123 co46)) (aRw HO_4) hg hat)
                     replace HO125 := Aside0.mk (Kd.R_after (ok := (fun k_ => some k_ ≠ (.slice (some ad108) x4_1.length co35 : Value).ownBlock)) (aRw HO125) hg hat)
                     replace HB := Aside0.mk hb
                     have HO135 := Aside0.mk ho
                     clear HO128
                     clear ho hb hg hat
                     refine hK.out _ _ (((HB.out.cell (World.block_lt_of_cell? w _ hw122_0)).trans hw122_0)) (fun hHeld => ?_)
                     clear hK K
                     refine norm_ (a' := ?_) ?_ ?_
                     rotate_left
                     ·show Act.put _ (some 69) _ = _
                      simp only [Act.put, List.setIfInBounds_toArray, List.set_cons_zero, List.set_cons_succ, i64_w, i32_w]
                      rfl
                     refine pV 15 4 rfl rfl ?_
                     refine done_ (done_of HT_.out (by kernel_rfl)) ?_
                     try go_wp2
                     go_roundg k3
                     case measure => have := HK1.out; have := HJ2.out; have := HK3.out; omega
                     case rel => exact ⟨(y133), (wrap64 (x5_1 + 1)), bS, H', ⟨by have := HK1.out; have := HJ2.out; have := HK3.out; omega⟩, ⟨by (with_reducible repeat (first | apply Kd.R_alloc | apply Kd.R_drewN | apply Kd.R_drew)); exact Kd.R_mono HO135.out (fun _ hk => trivial)⟩, ⟨bB⟩⟩
                    ·rw [if_neg c33] at H
                     exact absurd H (by simp)
                   ·rw [if_neg c30] at H
                    exact absurd H (by simp)
                  ·rw [if_neg c29] at H
                   exact absurd H (by simp)
                 ·rw [if_neg c28] at H
                  exact absurd H (by simp)
               ·rw [if_neg c22] at H
                exact absurd H (by simp)
              ·rw [if_neg c21] at H
               exact absurd H (by simp)
             ·rw [if_neg c19] at H
              exact absurd H (by simp)
            ·rw [if_neg c18] at H
             have c18b0 : decide (x6_3 < (x4_1.length : Int)) = false := decide_eq_false c18
             clear c18
             obtain ⟨y136, hy136⟩ : ∃ y_ : List Int, y_ = (([] : List Int)) := ⟨_, rfl⟩
             replace H : (if 0 ≤ x6_3 then (if x6_3 ≤ (x4_1.length : Int) then ((some (x4_1.take (x6_3 : Int).toNat : List Int)).bind fun y139 => (if y136.length + y139.length < 17592186044416 then ((some (y136 ++ y139 : List Int)).bind fun y143 => (if 0 ≤ x5_1 then (if x5_1 < (l0.length : Int) then ((some (([rd l0 x5_1] : List Int) : List Int)).bind fun y147 => (if y143.length + y147.length < 17592186044416 then ((some (y143 ++ y147 : List Int)).bind fun y150 => ((some (x4_1.drop (x6_3 : Int).toNat : List Int)).bind fun y153 => (if y150.length + y153.length < 17592186044416 then (ferruleref12_Clean.l0 k3 l0 (y150 ++ y153) (wrap64 (x5_1 + 1))) else (none)))) else (none))) else (none)) else (none))) else (none))) else (none)) else (none)) = some (r1, r2) := by first | (rw [hy136]; with_reducible exact H) | (have H2_ := (Option.bind_some _ _).symm.trans H; rw [hy136]; with_reducible exact H2_) | (have H2_ := (Option.bind_some _ _).symm.trans H; with_reducible exact H2_) | with_reducible exact H | (rw [hy136]; exact H) | exact H
             have Ny136 := Aside0.mk hy136
             clear hy136
             by_cases c48 : 0 ≤ x6_3
             ·rw [if_pos c48] at H
              have c48b0 := eq_true c48
              have c48b1 : decide (0 ≤ x6_3) = true := decide_eq_true c48
              clear c48
              by_cases c49 : x6_3 ≤ (x4_1.length : Int)
              ·rw [if_pos c49] at H
               have c49b0 := eq_true c49
               have c49b1 : decide (x6_3 ≤ (x4_1.length : Int)) = true := decide_eq_true c49
               clear c49
               obtain ⟨y139, hy139⟩ : ∃ y_ : List Int, y_ = (x4_1.take (x6_3 : Int).toNat) := ⟨_, rfl⟩
               replace H : (if y136.length + y139.length < 17592186044416 then ((some (y136 ++ y139 : List Int)).bind fun y143 => (if 0 ≤ x5_1 then (if x5_1 < (l0.length : Int) then ((some (([rd l0 x5_1] : List Int) : List Int)).bind fun y147 => (if y143.length + y147.length < 17592186044416 then ((some (y143 ++ y147 : List Int)).bind fun y150 => ((some (x4_1.drop (x6_3 : Int).toNat : List Int)).bind fun y153 => (if y150.length + y153.length < 17592186044416 then (ferruleref12_Clean.l0 k3 l0 (y150 ++ y153) (wrap64 (x5_1 + 1))) else (none)))) else (none))) else (none)) else (none))) else (none)) = some (r1, r2) := by first | (rw [hy139]; with_reducible exact H) | (have H2_ := (Option.bind_some _ _).symm.trans H; rw [hy139]; with_reducible exact H2_) | (have H2_ := (Option.bind_some _ _).symm.trans H; with_reducible exact H2_) | with_reducible exact H | (rw [hy139]; exact H) | exact H
               have Ny139 := Aside0.mk hy139
               clear hy139
               by_cases c50 : y136.length + y139.length < 17592186044416
               ·rw [if_pos c50] at H
                have LMc50 := Aside0.mk c50
                clear c50
                obtain ⟨y143, hy143⟩ : ∃ y_ : List Int, y_ = (y136 ++ y139) := ⟨_, rfl⟩
                replace H : (if 0 ≤ x5_1 then (if x5_1 < (l0.length : Int) then ((some (([rd l0 x5_1] : List Int) : List Int)).bind fun y147 => (if y143.length + y147.length < 17592186044416 then ((some (y143 ++ y147 : List Int)).bind fun y150 => ((some (x4_1.drop (x6_3 : Int).toNat : List Int)).bind fun y153 => (if y150.length + y153.length < 17592186044416 then (ferruleref12_Clean.l0 k3 l0 (y150 ++ y153) (wrap64 (x5_1 + 1))) else (none)))) else (none))) else (none)) else (none)) = some (r1, r2) := by first | (rw [hy143]; with_reducible exact H) | (have H2_ := (Option.bind_some _ _).symm.trans H; rw [hy143]; with_reducible exact H2_) | (have H2_ := (Option.bind_some _ _).symm.trans H; with_reducible exact H2_) | with_reducible exact H | (rw [hy143]; exact H) | exact H
                have Ny143 := Aside0.mk hy143
                clear hy143
                by_cases c51 : 0 ≤ x5_1
                ·rw [if_pos c51] at H
                 have c51b0 : decide (0 ≤ x5_1) = true := decide_eq_true c51
                 clear c51
                 by_cases c52 : x5_1 < (l0.length : Int)
                 ·rw [if_pos c52] at H
                  have c52b0 : decide (x5_1 < (l0.length : Int)) = true := decide_eq_true c52
                  clear c52
                  obtain ⟨y147, hy147⟩ : ∃ y_ : List Int, y_ = (([rd l0 x5_1] : List Int)) := ⟨_, rfl⟩
                  replace H : (if y143.length + y147.length < 17592186044416 then ((some (y143 ++ y147 : List Int)).bind fun y150 => ((some (x4_1.drop (x6_3 : Int).toNat : List Int)).bind fun y153 => (if y150.length + y153.length < 17592186044416 then (ferruleref12_Clean.l0 k3 l0 (y150 ++ y153) (wrap64 (x5_1 + 1))) else (none)))) else (none)) = some (r1, r2) := by first | (rw [hy147]; with_reducible exact H) | (have H2_ := (Option.bind_some _ _).symm.trans H; rw [hy147]; with_reducible exact H2_) | (have H2_ := (Option.bind_some _ _).symm.trans H; with_reducible exact H2_) | with_reducible exact H | (rw [hy147]; exact H) | exact H
                  have Ny147 := Aside0.mk hy147
                  clear hy147
                  by_cases c53 : y143.length + y147.length < 17592186044416
                  ·rw [if_pos c53] at H
                   have LMc53 := Aside0.mk c53
                   clear c53
                   obtain ⟨y150, hy150⟩ : ∃ y_ : List Int, y_ = (y143 ++ y147) := ⟨_, rfl⟩
                   replace H : ((some (x4_1.drop (x6_3 : Int).toNat : List Int)).bind fun y153 => (if y150.length + y153.length < 17592186044416 then (ferruleref12_Clean.l0 k3 l0 (y150 ++ y153) (wrap64 (x5_1 + 1))) else (none))) = some (r1, r2) := by first | (rw [hy150]; with_reducible exact H) | (have H2_ := (Option.bind_some _ _).symm.trans H; rw [hy150]; with_reducible exact H2_) | (have H2_ := (Option.bind_some _ _).symm.trans H; with_reducible exact H2_) | with_reducible exact H | (rw [hy150]; exact H) | exact H
                   have Ny150 := Aside0.mk hy150
                   clear hy150
                   have c54b0 := eq_true (oD : 0 ≤ x6_3)
                   have c55b0 := eq_true (oD : x6_3 ≤ (x4_1.length : Int))
                   obtain ⟨y153, hy153⟩ : ∃ y_ : List Int, y_ = (x4_1.drop (x6_3 : Int).toNat) := ⟨_, rfl⟩
                   replace H : (if y150.length + y153.length < 17592186044416 then (ferruleref12_Clean.l0 k3 l0 (y150 ++ y153) (wrap64 (x5_1 + 1))) else (none)) = some (r1, r2) := by first | (rw [hy153]; with_reducible exact H) | (have H2_ := (Option.bind_some _ _).symm.trans H; rw [hy153]; with_reducible exact H2_) | (have H2_ := (Option.bind_some _ _).symm.trans H; with_reducible exact H2_) | with_reducible exact H | (rw [hy153]; exact H) | exact H
                   have Ny153 := Aside0.mk hy153
                   clear hy153
                   by_cases c56 : y150.length + y153.length < 17592186044416
                   ·rw [if_pos c56] at H
                    have LMc56 := Aside0.mk c56
                    clear c56
                    obtain ⟨y157, hy157⟩ : ∃ y_ : List Int, y_ = (y150 ++ y153) := ⟨_, rfl⟩
                    replace H : (ferruleref12_Clean.l0 k3 l0 y157 (wrap64 (x5_1 + 1))) = some (r1, r2) := by first | (rw [hy157]; with_reducible exact H) | (have H2_ := (Option.bind_some _ _).symm.trans H; rw [hy157]; with_reducible exact H2_) | (have H2_ := (Option.bind_some _ _).symm.trans H; with_reducible exact H2_) | with_reducible exact H | (rw [hy157]; exact H) | exact H
                    have Ny157 := Aside0.mk hy157
                    clear hy157
                    have H' := Aside0.mk H
                    clear H
                    try go_wp2
                    replace HO_4 := Aside0.mk (Kd.R_drew HO_4.out)
                    replace HB := Aside0.mk (below_drew1 HB.out)
                    obtain ⟨Ao58, co58, eo58⟩ := Kd.R_slice HO_4.out
                    (first | subst eo58 | (injection eo58 with f1_ f2_ f3_; have f4_ := f1_.symm; have f5_ := f3_.symm; clear f1_ f2_ f3_; subst f4_; subst f5_))
                    refine start_ (n := 17) (S := fun w' => True) (ds := []) #[false, false, false, false, false, false, false, false, false, false, false, false, false, false, false, false, false] (by kernel_rfl) rfl rfl trivial (fun hHeld => ?_); refine with_tabW ferruleref12_Clean.tab9 ferruleref12_Clean.bits9 (fun HT_ HW_ => ?_)
                    generalize wr.drew = w57 at HO_4 HB hHeld ⊢
                    refine pV 0 36 rfl rfl ?_
                    refine pV 1 37 rfl rfl ?_
                    refine pV 2 38 rfl rfl ?_
                    refine pV 3 39 rfl rfl ?_
                    refine pV 4 40 rfl rfl ?_
                    refine pU 5 41 rfl rfl ?_
                    refine pU 6 42 rfl rfl ?_
                    refine pU 7 43 rfl rfl ?_
                    refine pU 8 44 rfl rfl ?_
                    refine pU 9 45 rfl rfl ?_
                    refine pU 10 46 rfl rfl ?_
                    refine pU 11 47 rfl rfl ?_
                    refine pU 12 48 rfl rfl ?_
                    refine pU 13 49 rfl rfl ?_
                    refine pU 14 50 rfl rfl ?_
                    refine pU 15 51 rfl rfl ?_
                    refine pV 16 52 rfl rfl ?_
                    refine done_ (done_of HT_.out (by kernel_rfl)) ?_
                    try go_wp2
                    replace HO_4 := Aside0.mk (Kd.R_drew HO_4.out)
                    replace HB := Aside0.mk (below_drew1 HB.out)
                    have q60 : (x6_3 : Int) ≤ ((x4_1.length : Int) : Int) := oD
                    obtain ⟨i060, hi060, _, hsz60, _⟩ := info_parts info3
                    have hroom60 : x4_1.length ≤ co58 := (Kd.R_reads' HO_4.out).2.1
                    have hC60 : Kd.C (Kd.int .i64) _ Ao58 x4_1.length x4_1 := (Kd.R_reads' HO_4.out).2.2
                    have hcut60 := cut_to (P := Try.prog) 22 3 .i64 Try.underlying22 hi060 Ao58 x4_1.length co58 x6_3 oD q60 hroom60
                    have hr60 := Kd.C_take (m := (x6_3 : Int).toNat) hC60 (by omega)
                    have hy60 : y139.length = (x6_3 : Int).toNat := (by rw [Ny139.out, List.length_take]; omega)
                    rw [← Ny139.out] at hr60
                    rw [← hy60] at hcut60
                    have HR142 := Aside0.mk hr60
                    have HC142 := Aside0.mk (show y139.length ≤ co58 from by omega)
                    clear hr60 hC60 hroom60 hi060 hsz60
                    have KY60 := Aside0.mk hy60
                    clear hy60
                    have KL60 := Aside0.mk (show (x6_3 : Int).toNat ≤ x4_1.length from by omega)
                    replace q60 := eq_true q60
                    have p146 : 0 ≤ (x5_1 : Int) := oD
                    have q146 : x5_1 < (l0.length : Int) := oD
                    obtain ⟨ad146, e146, hx146_0⟩ := Kd.at_int HR0.out x5_1 p146 q146
                    have hw146_0 := hx146_0
                    obtain rfl : ad106 = ad146 := (by injection e146)
                    replace hx146_0 := (HB.out.cell (World.block_lt_of_cell? w _ hx146_0)).trans hx146_0
                    replace p146 := eq_true p146
                    replace q146 := eq_true q146
                    have q61 : (x6_3 : Int) ≤ ((x4_1.length : Int) : Int) := oD
                    obtain ⟨i061, hi061, _, hsz61, _⟩ := info_parts info3
                    have hroom61 : x4_1.length ≤ co58 := (Kd.R_reads' HO_4.out).2.1
                    have hC61 : Kd.C (Kd.int .i64) _ Ao58 x4_1.length x4_1 := (Kd.R_reads' HO_4.out).2.2
                    have q061 : (0 : Int) ≤ (x6_3 : Int) := oD
                    have hcut61 := cut_from (P := Try.prog) 22 3 .i64 Try.underlying22 hi061 1 hsz61 Ao58 x4_1.length co58 x6_3 q061 q61
                    have hr61 := Kd.C_drop (m := (x6_3 : Int).toNat) (c := co58) hC61 (by omega) hroom61
                    obtain ⟨A61, hA61⟩ : ∃ A1, A1 = (if co58 = (x6_3 : Int).toNat then Ao58 else (Ao58 : Option Addr).map (·.add ((x6_3 : Int).toNat * 1))) := ⟨_, rfl⟩
                    obtain ⟨c61, hc61⟩ : ∃ c1, c1 = co58 - (x6_3 : Int).toNat := ⟨_, rfl⟩
                    have hy61 : y153.length = x4_1.length - (x6_3 : Int).toNat := (by rw [Ny153.out, List.length_drop] <;> omega)
                    rw [show (x4_1).drop (x6_3 : Int).toNat = y153 from Ny153.out.symm] at hr61
                    replace hr61 : Kd.C (Kd.int .i64) _ A61 y153.length y153 := (by rw [hA61]; exact hr61)
                    rw [← hy61, ← hA61, ← hc61] at hcut61
                    have HR156 := Aside0.mk hr61
                    have HC156 := Aside0.mk (show y153.length ≤ c61 from by rw [hy61, hc61]; exact Nat.sub_le_sub_right hroom61 _)
                    clear hr61 hC61 hroom61 hi061 hsz61 hc61
                    have KY61 := Aside0.mk hy61
                    have KA61 := Aside0.mk hA61
                    clear hy61 hA61
                    have KL61 := Aside0.mk (show (x6_3 : Int).toNat ≤ x4_1.length from by omega)
                    replace q61 := eq_true q61
                    refine start_ (n := 16) (S := fun w' => w'.cell? (ad106.add (x5_1).toNat) = some (.int .i64 (rd l0 x5_1))) (ds := []) #[false, false, false, false, false, false, false, false, false, false, false, false, false, false, false, false] (by kernel_rfl) rfl rfl (((HB.out.cell (World.block_lt_of_cell? w _ hw146_0)).trans hw146_0)) (fun hHeld => ?_); refine with_tabW ferruleref12_Clean.tab11 ferruleref12_Clean.bits11 (fun HT_ HW_ => ?_)
                    generalize w57.drew = w59 at HO_4 HB HR142 HR156 hx146_0 hHeld ⊢
                    refine pV 1 56 rfl rfl ?_
                    refine pV 2 57 rfl rfl ?_
                    refine pV 3 58 rfl rfl ?_
                    refine pV 5 60 rfl rfl ?_
                    refine pV 6 61 rfl rfl ?_
                    refine pV 7 62 rfl rfl ?_
                    refine pV 11 66 rfl rfl ?_
                    refine pV 12 67 rfl rfl ?_
                    refine pV 13 68 rfl rfl ?_
                    refine take_ (i := 8) (N := some 63) (v := ?_) (a' := ?_) #[false, true, true, true, false, true, true, true, true, false, false, true, true, true, false, false] rfl rfl (take_ofW HT_.out HW_.out (by kernel_rfl)) (fun _ _ _ h => h) (Or.inl ⟨by rfl, ?_⟩) hHeld ?_ ?_
                    rotate_left
                    ·intro w' s0
                     go_simp
                     with_reducible rfl
                    rotate_left
                    ·simp only [Act.put, List.setIfInBounds_toArray, List.set_cons_zero, List.set_cons_succ, i64_w, i32_w]
                     rfl
                    refine join_ (σ := Value × Value × Value) 3 #[true, true, true, true, true, true, true, true, true, true, false, true, true, true, false, false] (fun s_ => [(55, s_.1), (59, s_.2.1), (64, s_.2.2)]) (fun s_ w' => (w'.cell? (ad106.add (x5_1).toNat) = some (.int .i64 (rd l0 x5_1))) ∧ (Kd.R (Kd.int .i64) 3 w' w.heap.size (fun k_ => some k_ ≠ (s_.2.2 : Value).ownBlock ∧ some k_ ≠ ob Ao58 x4_1 co58) s_.2.1 y143) ∧ (Kd.R (Kd.int .i64) 3 w' w.heap.size (fun k_ => some k_ ≠ (s_.2.1 : Value).ownBlock ∧ some k_ ≠ ob Ao58 x4_1 co58) s_.2.2 y147) ∧ (Kd.R (Kd.int .i64) 3 w' w.heap.size (fun k_ => some k_ ≠ (s_.2.1 : Value).ownBlock ∧ some k_ ≠ (s_.2.2 : Value).ownBlock) (.slice Ao58 x4_1.length co58) x4_1) ∧ (Below w.heap.size w w')) ?_ ?_
                    rotate_left
                    ·intro hCont
                     refine two_ (i := 0) (j := 9) (Ni := some 55) (Nj := some 64) #[true, true, true, true, false, true, true, true, true, false, false, true, true, true, false, false] #[false, true, true, true, false, true, true, true, true, true, false, true, true, true, false, false] rfl rfl rfl rfl (two_of HT_.out (by kernel_rfl)) (by decide) (by decide) (fun K hK => ?_) (fun K hK => ?_)
                     ·skip
                      refine Kd.R_lit_step (Kd.int .i64) _ 3 ?hg (N := 55) ?hd (xs := ([] : List Int)) (inner := []) (ok := fun _ => True) (okp := fun _ => True) ?hr ?hp (fun _ hk => hk) trivial (Below.refl _ _) (Nat.le_refl _) (by simp) ?_; (case hd => rfl); (case hg => rfl); (case hr => first | (go_simp; done) | (go_simp; rfl)); (case hp => exact (Reps.none _ _))
                      intro v137 w62 ho63 hb hg_ hnew_
                      clear hg_ hnew_
                      (first | rw [← Ny136.out] at ho63 | (simp only [Int.reduceToNat] at ho63; rw [← Ny136.out] at ho63))
                      have HO138 := aN ho63 HO_4 HB
                      replace HO_4 := aE HO_4 ho63 hb
                      replace HR142 := aC HR142 hb
                      replace HR156 := aC HR156 hb
                      replace HB := aB HB hb
                      clear hb ho63
                      refine hK.out _ _ (((HB.out.cell (World.block_lt_of_cell? w _ hw146_0)).trans hw146_0)) (fun hHeld => ?_)
                      clear hK K
                      refine norm_ (a' := ?_) ?_ ?_
                      rotate_left
                      ·show Act.put _ (some 55) _ = _
                       simp only [Act.put, List.setIfInBounds_toArray, List.set_cons_zero, List.set_cons_succ, i64_w, i32_w]
                       rfl
                      refine two_ (i := 4) (j := 9) (Ni := some 59) (Nj := some 64) #[true, true, true, true, true, true, true, true, true, false, false, true, true, true, false, false] #[true, true, true, true, false, true, true, true, true, true, false, true, true, true, false, false] rfl rfl rfl rfl (two_of HT_.out (by kernel_rfl)) (by decide) (by decide) (fun K hK => ?_) (fun K hK => ?_)
                      ·skip
                       refine Kd.R_append_rows_step (Kd.int .i64) (w0 := w) w.heap.size (by rfl) (.tmp 55) (.tmp 58) 22 3 (.int .i64 0) 8 rfl Try.underlying22 info3 rfl (by decide) (by omega) v137 y136 y139 _ _ _ (fun k_ => some k_ ≠ ob Ao58 x4_1 co58) (fun _ => False) rfl rfl ?aO ?aR (fun _ _ h => h) (fun _ h => h.elim) ?aF ?aB ?aS ?aL ?_
                       (case aR => exact aCw HR142)
                       (case aB => exact bB)
                       (case aF => exact (fun k_ hk => Kd.fresh' (Kd.R_lt (aRw HO_4)) k_ hk))
                       (case aO => exact (by (with_reducible repeat (first | apply Kd.R_alloc | apply Kd.R_drewN | apply Kd.R_drew)); exact Kd.R_mono HO138.out (fun _ hk => hk.2)))
                       (case aS => exact (below_size bB))
                       (case aL => have := LMc50.out; omega)
                       intro v144 w64 ho hb hg hat
                       rw [← Ny143.out] at ho
                       replace HB := Aside0.mk hb
                       replace HR142 := Aside0.mk ((show Kd.C (Kd.int .i64) w64 Ao58 y139.length y139 from by rw [Ny139.out]; exact Kd.C_take (m := (x6_3 : Int).toNat) ((Kd.R_reads' (Kd.R_after (ok := (fun _ => True)) (aRw HO_4) hg hat)).2.2) KL60.out))
                       replace HR156 := Aside0.mk ((show Kd.C (Kd.int .i64) w64 A61 y153.length y153 from by rw [Ny153.out, KA61.out]; exact Kd.C_drop (m := (x6_3 : Int).toNat) (c := co58) ((Kd.R_reads' (Kd.R_after (ok := (fun _ => True)) (aRw HO_4) hg hat)).2.2) KL61.out ((Kd.R_reads' (Kd.R_after (ok := (fun _ => True)) (aRw HO_4) hg hat)).2.1)))
                       replace HO_4 := Aside0.mk (Kd.R_after (ok := (fun _ => True)) (aRw HO_4) hg hat)
                       have HO145 := Aside0.mk ho
                       clear HO138
                       clear ho hb hg hat
                       refine hK.out _ _ (((HB.out.cell (World.block_lt_of_cell? w _ hw146_0)).trans hw146_0)) (fun hHeld => ?_)
                       clear hK K
                       refine norm_ (a' := ?_) ?_ ?_
                       rotate_left
                       ·show Act.put _ (some 59) _ = _
                        simp only [Act.put, List.setIfInBounds_toArray, List.set_cons_zero, List.set_cons_succ, i64_w, i32_w]
                        rfl
                       refine one_ (i := 9) (N := some 64) #[true, true, true, true, true, true, true, true, true, true, false, true, true, true, false, false] rfl rfl (one_of HT_.out (by kernel_rfl)) (by decide) (fun K hK => ?_)
                       refine Kd.R_lit_step (Kd.int .i64) _ 3 ?hg (N := 64) ?hd (xs := ([rd l0 x5_1] : List Int)) (inner := [.int .i64 (rd l0 x5_1)]) (ok := fun _ => True) (okp := fun _ => True) ?hr ?hp (fun _ hk => hk) trivial (Below.refl _ _) (Nat.le_refl _) (by simp) ?_; (case hd => rfl); (case hg => rfl); (case hr => first | (go_simp; done) | (go_simp; rfl)); (case hp => exact (Reps.one (show Kd.M (Kd.int .i64) _ _ _ (rd l0 x5_1) [.int .i64 (rd l0 x5_1)] from rfl) (Reps.none _ _)))
                       intro v148 w65 ho66 hb hg_ hnew_
                       clear hg_ hnew_
                       (first | rw [← Ny147.out] at ho66 | (simp only [Int.reduceToNat] at ho66; rw [← Ny147.out] at ho66))
                       have HO149 := Aside0.mk (Kd.R_lower (Kd.R_new' (Kd.R_new' ho66 (Kd.R_lt (aRw HO_4))) (Kd.R_lt (aRw HO145))) (below_size bB))
                       replace HO_4 := aE HO_4 ho66 hb
                       replace HO145 := aE HO145 ho66 hb
                       replace HR142 := aC HR142 hb
                       replace HR156 := aC HR156 hb
                       replace HB := aB HB hb
                       clear hb ho66
                       refine hK.out _ _ (((HB.out.cell (World.block_lt_of_cell? w _ hw146_0)).trans hw146_0)) (fun hHeld => ?_)
                       clear hK K
                       refine norm_ (a' := ?_) ?_ ?_
                       rotate_left
                       ·show Act.put _ (some 64) _ = _
                        simp only [Act.put, List.setIfInBounds_toArray, List.set_cons_zero, List.set_cons_succ, i64_w, i32_w]
                        rfl
                       exact norm_ (by simp only [putAll, Act.put, List.setIfInBounds_toArray, List.set_cons_zero, List.set_cons_succ]) (hCont (v137, v144, v148) _ ⟨hHeld, (by (with_reducible repeat (first | apply Kd.R_alloc | apply Kd.R_drewN | apply Kd.R_drew)); exact Kd.R_mono HO145.out bK), (by (with_reducible repeat (first | apply Kd.R_alloc | apply Kd.R_drewN | apply Kd.R_drew)); exact Kd.R_mono HO149.out bK), (by (with_reducible repeat (first | apply Kd.R_alloc | apply Kd.R_drewN | apply Kd.R_drew)); exact Kd.R_mono HO_4.out bK), bB⟩)
                      ·skip
                       refine Kd.R_lit_step (Kd.int .i64) _ 3 ?hg (N := 64) ?hd (xs := ([rd l0 x5_1] : List Int)) (inner := [.int .i64 (rd l0 x5_1)]) (ok := fun _ => True) (okp := fun _ => True) ?hr ?hp (fun _ hk => hk) trivial (Below.refl _ _) (Nat.le_refl _) (by simp) ?_; (case hd => rfl); (case hg => rfl); (case hr => first | (go_simp; done) | (go_simp; rfl)); (case hp => exact (Reps.one (show Kd.M (Kd.int .i64) _ _ _ (rd l0 x5_1) [.int .i64 (rd l0 x5_1)] from rfl) (Reps.none _ _)))
                       intro v148 w64 ho65 hb hg_ hnew_
                       clear hg_ hnew_
                       (first | rw [← Ny147.out] at ho65 | (simp only [Int.reduceToNat] at ho65; rw [← Ny147.out] at ho65))
                       have HO149 := Aside0.mk (Kd.R_lower (Kd.R_new' (Kd.R_new' ho65 (Kd.R_lt (aRw HO_4))) (Kd.R_lt (aRw HO138))) (below_size bB))
                       replace HO_4 := aE HO_4 ho65 hb
                       replace HO138 := aE HO138 ho65 hb
                       replace HR142 := aC HR142 hb
                       replace HR156 := aC HR156 hb
                       replace HB := aB HB hb
                       clear hb ho65
                       refine hK.out _ _ (((HB.out.cell (World.block_lt_of_cell? w _ hw146_0)).trans hw146_0)) (fun hHeld => ?_)
                       clear hK K
                       refine norm_ (a' := ?_) ?_ ?_
                       rotate_left
                       ·show Act.put _ (some 64) _ = _
                        simp only [Act.put, List.setIfInBounds_toArray, List.set_cons_zero, List.set_cons_succ, i64_w, i32_w]
                        rfl
                       refine one_ (i := 4) (N := some 59) #[true, true, true, true, true, true, true, true, true, true, false, true, true, true, false, false] rfl rfl (one_of HT_.out (by kernel_rfl)) (by decide) (fun K hK => ?_)
                       refine Kd.R_append_rows_step (Kd.int .i64) (w0 := w) w.heap.size (by rfl) (.tmp 55) (.tmp 58) 22 3 (.int .i64 0) 8 rfl Try.underlying22 info3 rfl (by decide) (by omega) v137 y136 y139 _ _ _ (fun k_ => some k_ ≠ ob Ao58 x4_1 co58 ∧ some k_ ≠ (v148 : Value).ownBlock) (fun _ => False) rfl rfl ?aO ?aR (fun _ _ h => h) (fun _ h => h.elim) ?aF ?aB ?aS ?aL ?_
                       (case aR => exact aCw HR142)
                       (case aB => exact bB)
                       (case aF => exact (fun k_ hk => ⟨Kd.fresh' (Kd.R_lt (aRw HO_4)) k_ hk, Kd.fresh' (Kd.R_lt (aRw HO149)) k_ hk⟩))
                       (case aO => exact (by (with_reducible repeat (first | apply Kd.R_alloc | apply Kd.R_drewN | apply Kd.R_drew)); exact Kd.R_mono HO138.out bK))
                       (case aS => exact (below_size bB))
                       (case aL => have := LMc50.out; omega)
                       intro v144 w66 ho hb hg hat
                       rw [← Ny143.out] at ho
                       replace HO149 := Aside0.mk (Kd.R_after (ok := (fun k_ => some k_ ≠ ob Ao58 x4_1 co58)) (by (with_reducible repeat (first | apply Kd.R_alloc | apply Kd.R_drewN | apply Kd.R_drew)); exact Kd.R_mono HO149.out bK) hg hat)
                       replace HB := Aside0.mk hb
                       replace HR142 := Aside0.mk ((show Kd.C (Kd.int .i64) w66 Ao58 y139.length y139 from by rw [Ny139.out]; exact Kd.C_take (m := (x6_3 : Int).toNat) ((Kd.R_reads' (Kd.R_after (ok := (fun k_ => some k_ ≠ (v148 : Value).ownBlock)) (by (with_reducible repeat (first | apply Kd.R_alloc | apply Kd.R_drewN | apply Kd.R_drew)); exact Kd.R_mono HO_4.out bK) hg hat)).2.2) KL60.out))
                       replace HR156 := Aside0.mk ((show Kd.C (Kd.int .i64) w66 A61 y153.length y153 from by rw [Ny153.out, KA61.out]; exact Kd.C_drop (m := (x6_3 : Int).toNat) (c := co58) ((Kd.R_reads' (Kd.R_after (ok := (fun k_ => some k_ ≠ (v148 : Value).ownBlock)) (by (with_reducible repeat (first | apply Kd.R_alloc | apply Kd.R_drewN | apply Kd.R_drew)); exact Kd.R_mono HO_4.out bK) hg hat)).2.2) KL61.out ((Kd.R_reads' (Kd.R_after (ok := (fun k_ => some k_ ≠ (v148 : Value).ownBlock)) (by (with_reducible repeat (first | apply Kd.R_alloc | apply Kd.R_drewN | apply Kd.R_drew)); exact Kd.R_mono HO_4.out bK) hg hat)).2.1)))
                       replace HO_4 := Aside0.mk (Kd.R_after (ok := (fun k_ => some k_ ≠ (v148 : Value).ownBlock)) (by (with_reducible repeat (first | apply Kd.R_alloc | apply Kd.R_drewN | apply Kd.R_drew)); exact Kd.R_mono HO_4.out bK) hg hat)
                       have HO145 := Aside0.mk ho
                       clear HO138
                       clear ho hb hg hat
                       refine hK.out _ _ (((HB.out.cell (World.block_lt_of_cell? w _ hw146_0)).trans hw146_0)) (fun hHeld => ?_)
                       clear hK K
                       refine norm_ (a' := ?_) ?_ ?_
                       rotate_left
                       ·show Act.put _ (some 59) _ = _
                        simp only [Act.put, List.setIfInBounds_toArray, List.set_cons_zero, List.set_cons_succ, i64_w, i32_w]
                        rfl
                       exact norm_ (by simp only [putAll, Act.put, List.setIfInBounds_toArray, List.set_cons_zero, List.set_cons_succ]) (hCont (v137, v144, v148) _ ⟨hHeld, (by (with_reducible repeat (first | apply Kd.R_alloc | apply Kd.R_drewN | apply Kd.R_drew)); exact Kd.R_mono HO145.out bK), (by (with_reducible repeat (first | apply Kd.R_alloc | apply Kd.R_drewN | apply Kd.R_drew)); exact Kd.R_mono HO149.out bK), (by (with_reducible repeat (first | apply Kd.R_alloc | apply Kd.R_drewN | apply Kd.R_drew)); exact Kd.R_mono HO_4.out bK), bB⟩)
                     ·skip
                      refine Kd.R_lit_step (Kd.int .i64) _ 3 ?hg (N := 64) ?hd (xs := ([rd l0 x5_1] : List Int)) (inner := [.int .i64 (rd l0 x5_1)]) (ok := fun _ => True) (okp := fun _ => True) ?hr ?hp (fun _ hk => hk) trivial (Below.refl _ _) (Nat.le_refl _) (by simp) ?_; (case hd => rfl); (case hg => rfl); (case hr => first | (go_simp; done) | (go_simp; rfl)); (case hp => exact (Reps.one (show Kd.M (Kd.int .i64) _ _ _ (rd l0 x5_1) [.int .i64 (rd l0 x5_1)] from rfl) (Reps.none _ _)))
                      intro v148 w62 ho63 hb hg_ hnew_
                      clear hg_ hnew_
                      (first | rw [← Ny147.out] at ho63 | (simp only [Int.reduceToNat] at ho63; rw [← Ny147.out] at ho63))
                      have HO149 := aN ho63 HO_4 HB
                      replace HO_4 := aE HO_4 ho63 hb
                      replace HR142 := aC HR142 hb
                      replace HR156 := aC HR156 hb
                      replace HB := aB HB hb
                      clear hb ho63
                      refine hK.out _ _ (((HB.out.cell (World.block_lt_of_cell? w _ hw146_0)).trans hw146_0)) (fun hHeld => ?_)
                      clear hK K
                      refine norm_ (a' := ?_) ?_ ?_
                      rotate_left
                      ·show Act.put _ (some 64) _ = _
                       simp only [Act.put, List.setIfInBounds_toArray, List.set_cons_zero, List.set_cons_succ, i64_w, i32_w]
                       rfl
                      refine one_ (i := 0) (N := some 55) #[true, true, true, true, false, true, true, true, true, true, false, true, true, true, false, false] rfl rfl (one_of HT_.out (by kernel_rfl)) (by decide) (fun K hK => ?_)
                      refine Kd.R_lit_step (Kd.int .i64) _ 3 ?hg (N := 55) ?hd (xs := ([] : List Int)) (inner := []) (ok := fun _ => True) (okp := fun _ => True) ?hr ?hp (fun _ hk => hk) trivial (Below.refl _ _) (Nat.le_refl _) (by simp) ?_; (case hd => rfl); (case hg => rfl); (case hr => first | (go_simp; done) | (go_simp; rfl)); (case hp => exact (Reps.none _ _))
                      intro v137 w64 ho65 hb hg_ hnew_
                      clear hg_ hnew_
                      (first | rw [← Ny136.out] at ho65 | (simp only [Int.reduceToNat] at ho65; rw [← Ny136.out] at ho65))
                      have HO138 := Aside0.mk (Kd.R_lower (Kd.R_new' (Kd.R_new' ho65 (Kd.R_lt (aRw HO_4))) (Kd.R_lt (aRw HO149))) (below_size bB))
                      replace HO_4 := aE HO_4 ho65 hb
                      replace HO149 := aE HO149 ho65 hb
                      replace HR142 := aC HR142 hb
                      replace HR156 := aC HR156 hb
                      replace HB := aB HB hb
                      clear hb ho65
                      refine hK.out _ _ (((HB.out.cell (World.block_lt_of_cell? w _ hw146_0)).trans hw146_0)) (fun hHeld => ?_)
                      clear hK K
                      refine norm_ (a' := ?_) ?_ ?_
                      rotate_left
                      ·show Act.put _ (some 55) _ = _
                       simp only [Act.put, List.setIfInBounds_toArray, List.set_cons_zero, List.set_cons_succ, i64_w, i32_w]
                       rfl
                      refine one_ (i := 4) (N := some 59) #[true, true, true, true, true, true, true, true, true, true, false, true, true, true, false, false] rfl rfl (one_of HT_.out (by kernel_rfl)) (by decide) (fun K hK => ?_)
                      refine Kd.R_append_rows_step (Kd.int .i64) (w0 := w) w.heap.size (by rfl) (.tmp 55) (.tmp 58) 22 3 (.int .i64 0) 8 rfl Try.underlying22 info3 rfl (by decide) (by omega) v137 y136 y139 _ _ _ (fun k_ => some k_ ≠ ob Ao58 x4_1 co58 ∧ some k_ ≠ (v148 : Value).ownBlock) (fun _ => False) rfl rfl ?aO ?aR (fun _ _ h => h) (fun _ h => h.elim) ?aF ?aB ?aS ?aL ?_
                      (case aR => exact aCw HR142)
                      (case aB => exact bB)
                      (case aF => exact (fun k_ hk => ⟨Kd.fresh' (Kd.R_lt (aRw HO_4)) k_ hk, Kd.fresh' (Kd.R_lt (aRw HO149)) k_ hk⟩))
                      (case aO => exact (by (with_reducible repeat (first | apply Kd.R_alloc | apply Kd.R_drewN | apply Kd.R_drew)); exact Kd.R_mono HO138.out bK))
                      (case aS => exact (below_size bB))
                      (case aL => have := LMc50.out; omega)
                      intro v144 w66 ho hb hg hat
                      rw [← Ny143.out] at ho
                      replace HO149 := Aside0.mk (Kd.R_after (ok := (fun k_ => some k_ ≠ ob Ao58 x4_1 co58)) (by (with_reducible repeat (first | apply Kd.R_alloc | apply Kd.R_drewN | apply Kd.R_drew)); exact Kd.R_mono HO149.out bK) hg hat)
                      replace HB := Aside0.mk hb
                      replace HR142 := Aside0.mk ((show Kd.C (Kd.int .i64) w66 Ao58 y139.length y139 from by rw [Ny139.out]; exact Kd.C_take (m := (x6_3 : Int).toNat) ((Kd.R_reads' (Kd.R_after (ok := (fun k_ => some k_ ≠ (v148 : Value).ownBlock)) (by (with_reducible repeat (first | apply Kd.R_alloc | apply Kd.R_drewN | apply Kd.R_drew)); exact Kd.R_mono HO_4.out bK) hg hat)).2.2) KL60.out))
                      replace HR156 := Aside0.mk ((show Kd.C (Kd.int .i64) w66 A61 y153.length y153 from by rw [Ny153.out, KA61.out]; exact Kd.C_drop (m := (x6_3 : Int).toNat) (c := co58) ((Kd.R_reads' (Kd.R_after (ok := (fun k_ => some k_ ≠ (v148 : Value).ownBlock)) (by (with_reducible repeat (first | apply Kd.R_alloc | apply Kd.R_drewN | apply Kd.R_drew)); exact Kd.R_mono HO_4.out bK) hg hat)).2.2) KL61.out ((Kd.R_reads' (Kd.R_after (ok := (fun k_ => some k_ ≠ (v148 : Value).ownBlock)) (by (with_reducible repeat (first | apply Kd.R_alloc | apply Kd.R_drewN | apply Kd.R_drew)); exact Kd.R_mono HO_4.out bK) hg hat)).2.1)))
                      replace HO_4 := Aside0.mk (Kd.R_after (ok := (fun k_ => some k_ ≠ (v148 : Value).ownBlock)) (by (with_reducible repeat (first | apply Kd.R_alloc | apply Kd.R_drewN | apply Kd.R_drew)); exact Kd.R_mono HO_4.out bK) hg hat)
                      have HO145 := Aside0.mk ho
                      clear HO138
                      clear ho hb hg hat
                      refine hK.out _ _ (((HB.out.cell (World.block_lt_of_cell? w _ hw146_0)).trans hw146_0)) (fun hHeld => ?_)
                      clear hK K
                      refine norm_ (a' := ?_) ?_ ?_
                      rotate_left
                      ·show Act.put _ (some 59) _ = _
                       simp only [Act.put, List.setIfInBounds_toArray, List.set_cons_zero, List.set_cons_succ, i64_w, i32_w]
                       rfl
                      exact norm_ (by simp only [putAll, Act.put, List.setIfInBounds_toArray, List.set_cons_zero, List.set_cons_succ]) (hCont (v137, v144, v148) _ ⟨hHeld, (by (with_reducible repeat (first | apply Kd.R_alloc | apply Kd.R_drewN | apply Kd.R_drew)); exact Kd.R_mono HO145.out bK), (by (with_reducible repeat (first | apply Kd.R_alloc | apply Kd.R_drewN | apply Kd.R_drew)); exact Kd.R_mono HO149.out bK), (by (with_reducible repeat (first | apply Kd.R_alloc | apply Kd.R_drewN | apply Kd.R_drew)); exact Kd.R_mono HO_4.out bK), bB⟩)
                    rintro ⟨v137, v144, v148⟩ w67 ⟨hS_, h0_, h1_, h2_, h3_⟩
                    have n0_ : Aside0 (Kd.R (Kd.int .i64) 3 w67 w.heap.size (fun k_ => some k_ ≠ (v148 : Value).ownBlock ∧ some k_ ≠ ob Ao58 x4_1 co58) v144 y143) := ⟨h0_⟩
                    have n1_ : Aside0 (Kd.R (Kd.int .i64) 3 w67 w.heap.size (fun k_ => some k_ ≠ (v144 : Value).ownBlock ∧ some k_ ≠ ob Ao58 x4_1 co58) v148 y147) := ⟨h1_⟩
                    have n2_ : Aside0 (Kd.R (Kd.int .i64) 3 w67 w.heap.size (fun k_ => some k_ ≠ (v144 : Value).ownBlock ∧ some k_ ≠ (v148 : Value).ownBlock) (.slice Ao58 x4_1.length co58) x4_1) := ⟨h2_⟩
                    have n3_ : Aside0 (Below w.heap.size w w67) := ⟨h3_⟩
                    clear HO_4
                    clear HB
                    clear h0_ h1_ h2_ h3_
                    have HO145 := n0_
                    have HO149 := n1_
                    have HO_4 := n2_
                    have HB := n3_
                    clear n0_ n1_ n2_ n3_
                    have hHeld : w67.cell? (ad106.add (x5_1).toNat) = some (.int .i64 (rd l0 x5_1)) := hS_
                    obtain ⟨Ao69, co69, eo69⟩ := Kd.R_slice HO149.out
                    (first | subst eo69 | (injection eo69 with f1_ f2_ f3_; have f4_ := f1_.symm; have f5_ := f3_.symm; clear f1_ f2_ f3_; subst f4_; subst f5_))
                    refine norm_ (a' := ?_) ?_ ?_
                    rotate_left
                    ·simp only [putAll, Act.put, List.setIfInBounds_toArray, List.set_cons_zero, List.set_cons_succ]
                     rfl
                    refine one_ (i := 10) (N := some 65) #[true, true, true, true, true, true, true, true, true, true, true, true, true, true, false, false] rfl rfl (one_of HT_.out (by kernel_rfl)) (by decide) (fun K hK => ?_)
                    refine Kd.R_append_rows_step (Kd.int .i64) (w0 := w) w.heap.size (by rfl) (.tmp 59) (.tmp 64) 22 3 (.int .i64 0) 8 rfl Try.underlying22 info3 rfl (by decide) (by omega) v144 y143 y147 _ _ _ (fun k_ => some k_ ≠ ob Ao58 x4_1 co58 ∧ some k_ ≠ ob Ao69 y147 co69) (fun _ => False) rfl rfl ?aO ?aR (fun _ _ h => h) (fun _ h => h.elim) ?aF ?aB ?aS ?aL ?_
                    (case aR => exact sW (Kd.R_reads' HO149.out).2.2)
                    (case aB => exact bB)
                    (case aF => exact (fun k_ hk => ⟨Kd.fresh' (Kd.R_lt (aRw HO_4)) k_ hk, Kd.fresh' (Kd.R_lt (aRw HO149)) k_ hk⟩))
                    (case aO => exact (by (with_reducible repeat (first | apply Kd.R_alloc | apply Kd.R_drewN | apply Kd.R_drew)); exact Kd.R_mono HO145.out bK))
                    (case aS => exact (below_size bB))
                    (case aL => have := LMc53.out; omega)
                    intro v151 w68 ho hb hg hat
                    rw [← Ny150.out] at ho
                    replace HO_4 := Aside0.mk (Kd.R_after (ok := (fun k_ => some k_ ≠ ob Ao69 y147 co69)) (by (with_reducible repeat (first | apply Kd.R_alloc | apply Kd.R_drewN | apply Kd.R_drew)); exact Kd.R_mono HO_4.out bK) hg hat)
                    replace HO149 := Aside0.mk (Kd.R_after (ok := (fun k_ => some k_ ≠ ob Ao58 x4_1 co58)) (by (with_reducible repeat (first | apply Kd.R_alloc | apply Kd.R_drewN | apply Kd.R_drew)); exact Kd.R_mono HO149.out bK) hg hat)
                    replace HB := Aside0.mk hb
                    have HO152 := Aside0.mk ho
                    clear HO145
                    clear ho hb hg hat
                    refine hK.out _ _ (((HB.out.cell (World.block_lt_of_cell? w _ hw146_0)).trans hw146_0)) (fun hHeld => ?_)
                    clear hK K
                    refine norm_ (a' := ?_) ?_ ?_
                    rotate_left
                    ·show Act.put _ (some 65) _ = _
                     simp only [Act.put, List.setIfInBounds_toArray, List.set_cons_zero, List.set_cons_succ, i64_w, i32_w]
                     rfl
                    refine one_ (i := 14) (N := some 69) #[true, true, true, true, true, true, true, true, true, true, true, true, true, true, true, false] rfl rfl (one_of HT_.out (by kernel_rfl)) (by decide) (fun K hK => ?_)
                    refine Kd.R_append_rows_step (Kd.int .i64) (w0 := w) w.heap.size (by rfl) (.tmp 65) (.tmp 68) 22 3 (.int .i64 0) 8 rfl Try.underlying22 info3 rfl (by decide) (by omega) v151 y150 y153 _ _ _ (fun k_ => some k_ ≠ ob Ao58 x4_1 co58 ∧ some k_ ≠ ob Ao69 y147 co69) (fun _ => False) rfl rfl ?aO ?aR (fun _ _ h => h) (fun _ h => h.elim) ?aF ?aB ?aS ?aL ?_
                    (case aR => exact (show Kd.C (Kd.int .i64) _ A61 y153.length y153 from by rw [Ny153.out, KA61.out]; refine Kd.C_drop (m := (x6_3 : Int).toNat) (c := co58) ?_ KL61.out ((Kd.R_reads' HO_4.out).2.1); refine (Kd.R_reads' (e := 3) (base := w.heap.size) (ok := fun k_ => (some k_ ≠ ob Ao69 y147 co69 ∧ some k_ ≠ (v151 : Value).ownBlock)) (n := x4_1.length) (c := co58) ?_).2.2; exact (aRw HO_4)))
                    (case aB => exact bB)
                    (case aF => exact (fun k_ hk => ⟨Kd.fresh' (Kd.R_lt (aRw HO_4)) k_ hk, Kd.fresh' (Kd.R_lt (aRw HO149)) k_ hk⟩))
                    (case aO => exact (aRw HO152))
                    (case aS => exact (below_size bB))
                    (case aL => have := LMc56.out; omega)
                    intro v158 w70 ho hb hg hat
                    rw [← Ny157.out] at ho
                    replace HO_4 := Aside0.mk (Kd.R_after (ok := (fun k_ => some k_ ≠ ob Ao69 y147 co69)) (aRw HO_4) hg hat)
                    replace HO149 := Aside0.mk (Kd.R_after (ok := (fun k_ => some k_ ≠ ob Ao58 x4_1 co58)) (aRw HO149) hg hat)
                    replace HB := Aside0.mk hb
                    have HO159 := Aside0.mk ho
                    clear HO152
                    clear ho hb hg hat
                    refine hK.out _ _ (((HB.out.cell (World.block_lt_of_cell? w _ hw146_0)).trans hw146_0)) (fun hHeld => ?_)
                    clear hK K
                    refine norm_ (a' := ?_) ?_ ?_
                    rotate_left
                    ·show Act.put _ (some 69) _ = _
                     simp only [Act.put, List.setIfInBounds_toArray, List.set_cons_zero, List.set_cons_succ, i64_w, i32_w]
                     rfl
                    refine pV 15 4 rfl rfl ?_
                    refine done_ (done_of HT_.out (by kernel_rfl)) ?_
                    try go_wp2
                    go_roundg k3
                    case measure => have := HK1.out; have := HJ2.out; have := HK3.out; omega
                    case rel => exact ⟨(y157), (wrap64 (x5_1 + 1)), bS, H', ⟨by have := HK1.out; have := HJ2.out; have := HK3.out; omega⟩, ⟨by (with_reducible repeat (first | apply Kd.R_alloc | apply Kd.R_drewN | apply Kd.R_drew)); exact Kd.R_mono HO159.out (fun _ hk => trivial)⟩, ⟨bB⟩⟩
                   ·rw [if_neg c56] at H
                    exact absurd H (by simp)
                  ·rw [if_neg c53] at H
                   exact absurd H (by simp)
                 ·rw [if_neg c52] at H
                  exact absurd H (by simp)
                ·rw [if_neg c51] at H
                 exact absurd H (by simp)
               ·rw [if_neg c50] at H
                exact absurd H (by simp)
              ·rw [if_neg c49] at H
               exact absurd H (by simp)
             ·rw [if_neg c48] at H
              exact absurd H (by simp)
        ·rw [if_neg c15] at H
         exact absurd H (by simp)
       ·rw [if_neg c14] at H
        exact absurd H (by simp)
   ·rw [if_neg c2] at H
    have c2b0 : decide (x5_1 < (l0.length : Int)) = false := decide_eq_false c2
    clear c2
    simp only [Option.some.injEq, Prod.mk.injEq] at H
    obtain ⟨rfl, rfl⟩ := H
    go_wp2
    go_ret2
    exact ⟨_, by first | rfl | (simp [errW_none, errW_some] <;> rfl) | (simp [*, errW_none, errW_some] <;> rfl), aRw HO_4, bB⟩

end Go.Proofs.Ytohgjbkiemnfnaa.R
