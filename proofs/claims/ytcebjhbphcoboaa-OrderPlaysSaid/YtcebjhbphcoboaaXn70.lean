-- Written by a program of this session (wip/xp), out of the translation. Not trusted: Lean checks it.
import Derived.Test.YtcebjhbphcoboaaX0
-- shrunk
namespace Go.Proofs.Ytcebjhbphcoboaa.X
open Go.RowKit Go.Proofs.YtcebjhbphcoboaaW.PrintWords Go.Proofs.YtcebjhbphcoboaaW.PrintLast Go.Proofs.YtcebjhbphcoboaaW.PrintMore
attribute [local go_sem] Lab.str_gtr Lab.str_leq Lab.str_geq max2_int min2_int max_two min_two max_three min_three max_four min_four   -- for this text's walks alone
set_option linter.unusedVariables false
set_option linter.unusedSimpArgs false

/-! ### ferruleref13_All: function 70 -/
mutual
def ferruleref13_All.l0 : Nat → List Int → List (S111) → Int → Option ((List (S111)))
 | 0, _, _, _ => none
 | k + 1, x0, x3, x4 => if x4 < (x0.length : Int) then (if x3.length < 5864062014805 then (ferruleref13_All.l1 k x0 (x3 ++ [(⟨0, x4, 0⟩ : S111)]) x4 0) else (none)) else (some x3)
def ferruleref13_All.l1 : Nat → List Int → List (S111) → Int → Int → Option ((List (S111)))
 | 0, _, _, _, _ => none
 | k + 1, x0, x3, x4, x5 => if 0 ≤ x4 then (if x4 < (x0.length : Int) then (if (wrap64 (x5 + 1)) < (rd x0 x4) then (if x3.length < 5864062014805 then (ferruleref13_All.l1 k x0 (x3 ++ [(⟨1, x4, x5⟩ : S111)]) x4 (wrap64 (x5 + 1))) else (none)) else (ferruleref13_All.l2 k x0 x3 x4 0)) else (none)) else (none)
def ferruleref13_All.l2 : Nat → List Int → List (S111) → Int → Int → Option ((List (S111)))
 | 0, _, _, _, _ => none
 | k + 1, x0, x3, x4, x6 => if 0 ≤ x4 then (if x4 < (x0.length : Int) then (if x6 < (rd x0 x4) then (if x3.length < 5864062014805 then (ferruleref13_All.l2 k x0 (x3 ++ [(⟨2, x4, x6⟩ : S111)]) x4 (wrap64 (x6 + 1))) else (none)) else (ferruleref13_All.l0 k x0 x3 (wrap64 (x4 + 1)))) else (none)) else (none)
end
def ferruleref13_All.f (k : Nat) (l0 : List Int) : Option ((List (S111))) := ferruleref13_All.l0 k l0 ([] : List (S111)) 0
theorem ferruleref13_All.mono_l : ∀ k, (∀ y0 y1 y2, LeO (ferruleref13_All.l0 k y0 y1 y2) (ferruleref13_All.l0 (k + 1) y0 y1 y2)) ∧ (∀ y0 y1 y2 y3, LeO (ferruleref13_All.l1 k y0 y1 y2 y3) (ferruleref13_All.l1 (k + 1) y0 y1 y2 y3)) ∧ (∀ y0 y1 y2 y3, LeO (ferruleref13_All.l2 k y0 y1 y2 y3) (ferruleref13_All.l2 (k + 1) y0 y1 y2 y3))
 | 0 => ⟨fun _ _ _ r h => by simp [ferruleref13_All.l0] at h, fun _ _ _ _ r h => by simp [ferruleref13_All.l1] at h, fun _ _ _ _ r h => by simp [ferruleref13_All.l2] at h⟩
 | k + 1 => by
  obtain ⟨ih0, ih1, ih2⟩ := ferruleref13_All.mono_l k
  refine ⟨?_, ?_, ?_⟩
  ·intro y0 y1 y2
   unfold ferruleref13_All.l0
   repeat' first
   | (with_reducible exact ih0 _ _ _)
   | (with_reducible exact ih1 _ _ _ _)
   | (with_reducible exact ih2 _ _ _ _)
   | (with_reducible exact LeO.refl _)
   | (with_reducible exact LeO.none _)
   | (with_reducible refine LeO.ite ?_ ?_)
   | (with_reducible refine LeO.bind ?_ (fun _ => ?_))
   | exact ih0 _ _ _
   | exact ih1 _ _ _ _
   | exact ih2 _ _ _ _
   | exact LeO.none _
   | refine LeO.ite ?_ ?_
   | refine LeO.bind ?_ (fun _ => ?_)
  ·intro y0 y1 y2 y3
   unfold ferruleref13_All.l1
   repeat' first
   | (with_reducible exact ih0 _ _ _)
   | (with_reducible exact ih1 _ _ _ _)
   | (with_reducible exact ih2 _ _ _ _)
   | (with_reducible exact LeO.refl _)
   | (with_reducible exact LeO.none _)
   | (with_reducible refine LeO.ite ?_ ?_)
   | (with_reducible refine LeO.bind ?_ (fun _ => ?_))
   | exact ih0 _ _ _
   | exact ih1 _ _ _ _
   | exact ih2 _ _ _ _
   | exact LeO.none _
   | refine LeO.ite ?_ ?_
   | refine LeO.bind ?_ (fun _ => ?_)
  ·intro y0 y1 y2 y3
   unfold ferruleref13_All.l2
   repeat' first
   | (with_reducible exact ih0 _ _ _)
   | (with_reducible exact ih1 _ _ _ _)
   | (with_reducible exact ih2 _ _ _ _)
   | (with_reducible exact LeO.refl _)
   | (with_reducible exact LeO.none _)
   | (with_reducible refine LeO.ite ?_ ?_)
   | (with_reducible refine LeO.bind ?_ (fun _ => ?_))
   | exact ih0 _ _ _
   | exact ih1 _ _ _ _
   | exact ih2 _ _ _ _
   | exact LeO.none _
   | refine LeO.ite ?_ ?_
   | refine LeO.bind ?_ (fun _ => ?_)
theorem ferruleref13_All.mono : ∀ a0 k, LeO (ferruleref13_All.f k a0) (ferruleref13_All.f (k + 1) a0) := by
 intro a0 k
 obtain ⟨ih0, ih1, ih2⟩ := ferruleref13_All.mono_l k
 unfold ferruleref13_All.f
 repeat' first
   | (with_reducible exact ih0 _ _ _)
   | (with_reducible exact ih1 _ _ _ _)
   | (with_reducible exact ih2 _ _ _ _)
   | (with_reducible exact LeO.refl _)
   | (with_reducible exact LeO.none _)
   | (with_reducible refine LeO.ite ?_ ?_)
   | (with_reducible refine LeO.bind ?_ (fun _ => ?_))
   | exact ih0 _ _ _
   | exact ih1 _ _ _ _
   | exact ih2 _ _ _ _
   | exact LeO.none _
   | refine LeO.ite ?_ ?_
   | refine LeO.bind ?_ (fun _ => ?_)
set_option maxHeartbeats 8000000 in
set_option maxRecDepth 100000 in
theorem ferruleref13_All.calls (k : Nat) (A0 : Option Addr) (c0 : Nat) (l0 : List Int) (r : List (S111)) (w : World) (hr0 : Kd.C (Kd.int .i64) w A0 l0.length l0) (hc0 : l0.length ≤ c0) (h : ferruleref13_All.f k l0 = some r) :
  Calls Try.prog 70 #[.slice A0 l0.length c0] w fun e w' => ∃ v0_ : Value, e = .returned (v0_) ∧ Kd.R k111 111 w' w.heap.size (fun _ => True) v0_ r ∧ Below w.heap.size w w' := by
 have hu111 := Try.underlying111
 have HR0 := Aside0.mk hr0
 have HC0 := Aside0.mk hc0
 clear hr0 hc0
 have HB := Aside0.mk (Below.refl w.heap.size w)
 have H : (ferruleref13_All.l0 k l0 ([] : List (S111)) 0) = some r := h
 clear h
 have H' := Aside0.mk H
 clear H
 go_enter Try.func70, Try.ntmps70
 go_wp2
 go_loopg [3, 4] k (fun kq v3 v4 w' => ∃ (x3_1 : List (S111)) (x4_1 : Int), v4 = .int .i64 x4_1 ∧ Aside0 (ferruleref13_All.l0 kq l0 x3_1 x4_1 = some r) ∧ Aside0 (kq ≤ k) ∧ Aside0 (Kd.R k111 111 w' w.heap.size (fun _ => True) v3 x3_1) ∧ Aside0 (Below w.heap.size w w'))
 case atStart => exact ⟨(([] : List (S111))), (0), bS, H', ⟨Nat.le_refl _⟩, ⟨by first | exact Kd.R_nil _ _ _ _ _ | exact Kd.N_nil _ _ _ _ _ | exact Kd.V_nil _ _ _ _ _ | exact Kd.Q_nil _ _ _ _ _ | exact Kd.S_nil _ _ _ _ _⟩, ⟨bB⟩⟩
 case round =>
  clear H'
  obtain ⟨x3_1, x4_1, rfl, HA, HK1, HO_3, HB⟩ := hrel
  cases gk with
  | zero => exact absurd HA.out (by simp [ferruleref13_All.l0])
  | succ k1 =>
   have H := HA.out
   clear HA
   simp only [ferruleref13_All.l0] at H
   by_cases c2 : x4_1 < (l0.length : Int)
   ·rw [if_pos c2] at H
    have c2b0 : decide (x4_1 < (l0.length : Int)) = true := decide_eq_true c2
    clear c2
    by_cases c3 : x3_1.length < 5864062014805
    ·rw [if_pos c3] at H
     have LMc3 := Aside0.mk c3
     clear c3
     obtain ⟨y101, hy101⟩ : ∃ y_ : List (S111), y_ = (x3_1 ++ [(⟨0, x4_1, 0⟩ : S111)]) := ⟨_, rfl⟩
     replace H : (ferruleref13_All.l1 k1 l0 y101 x4_1 0) = some r := by first | (rw [hy101]; with_reducible exact H) | (have H2_ := (Option.bind_some _ _).symm.trans H; rw [hy101]; with_reducible exact H2_) | (have H2_ := (Option.bind_some _ _).symm.trans H; with_reducible exact H2_) | with_reducible exact H | (rw [hy101]; exact H) | exact H
     have Ny101 := Aside0.mk hy101
     clear hy101
     have H' := Aside0.mk H
     clear H
     go_wp2_with (first | ((with_reducible refine gate_builtin (b := .append) (xs := #[.tmp 13, .tmp 16]) rfl ?_); at_builtin; refine Kd.R_append k111 (w0 := w) w.heap.size rfl (.tmp 13) (.tmp 16) 107 111 (.agg #[(.int .i64 0), (.int .i64 0), (.int .i64 0)]) 24 rfl Try.underlying107 info111 rfl (by decide) (by omega) u3 x3_1 (⟨0, x4_1, 0⟩ : S111) [.int .i64 0, .int .i64 x4_1, .int .i64 0] (fun _ => True) (fun _ => False) rfl rfl ?aP (fun _ hk => hk.elim) ?aF ?aO ?aB ?aS ?aL ?_; (case aP => exact k111_mkM _ _ _ (⟨0, x4_1, 0⟩ : S111)); (case aB => exact bB); (case aF => exact (fun _ _ => trivial)); (case aO => exact (aRw HO_3)); (case aS => exact (below_size bB)); (case aL => have := LMc3.out; omega); intro v102 w4 ho hb hg hat; rw [← Ny101.out] at ho; replace HB := Aside0.mk hb; have HO103 := Aside0.mk ho; clear HO_3; clear ho hb hg hat))
     go_loopg [3, 5] k1 (fun kq v3 v5 w' => ∃ (x3_2 : List (S111)) (x5_2 : Int), v5 = .int .i64 x5_2 ∧ Aside0 (ferruleref13_All.l1 kq l0 x3_2 x4_1 x5_2 = some r) ∧ Aside0 (kq ≤ k1) ∧ Aside0 (Kd.R k111 111 w' w.heap.size (fun _ => True) v3 x3_2) ∧ Aside0 (Below w.heap.size w w'))
     case atStart => exact ⟨(y101), (0), bS, H', ⟨Nat.le_refl _⟩, ⟨aRw HO103⟩, ⟨bB⟩⟩
     case round =>
      clear H'
      try clear c2
      try clear c2b0
      try clear p2
      try clear c3
      obtain ⟨x3_2, x5_2, rfl, HA, HK2, HO_3, HB⟩ := hrel
      cases gk with
      | zero => exact absurd HA.out (by simp [ferruleref13_All.l1])
      | succ k2 =>
       have H := HA.out
       clear HA
       simp only [ferruleref13_All.l1] at H
       by_cases c5 : 0 ≤ x4_1
       ·rw [if_pos c5] at H
        have c5b0 : decide (0 ≤ x4_1) = true := decide_eq_true c5
        clear c5
        by_cases c6 : x4_1 < (l0.length : Int)
        ·rw [if_pos c6] at H
         have c6b0 : decide (x4_1 < (l0.length : Int)) = true := decide_eq_true c6
         clear c6
         by_cases c7 : (wrap64 (x5_2 + 1)) < (rd l0 x4_1)
         ·rw [if_pos c7] at H
          have c7b0 : decide ((wrap64 (x5_2 + 1)) < (rd l0 x4_1)) = true := decide_eq_true c7
          clear c7
          by_cases c8 : x3_2.length < 5864062014805
          ·rw [if_pos c8] at H
           have LMc8 := Aside0.mk c8
           clear c8
           obtain ⟨y105, hy105⟩ : ∃ y_ : List (S111), y_ = (x3_2 ++ [(⟨1, x4_1, x5_2⟩ : S111)]) := ⟨_, rfl⟩
           replace H : (ferruleref13_All.l1 k2 l0 y105 x4_1 (wrap64 (x5_2 + 1))) = some r := by first | (rw [hy105]; with_reducible exact H) | (have H2_ := (Option.bind_some _ _).symm.trans H; rw [hy105]; with_reducible exact H2_) | (have H2_ := (Option.bind_some _ _).symm.trans H; with_reducible exact H2_) | with_reducible exact H | (rw [hy105]; exact H) | exact H
           have Ny105 := Aside0.mk hy105
           clear hy105
           have H' := Aside0.mk H
           clear H
           have p104 : 0 ≤ (x4_1 : Int) := oD
           have q104 : x4_1 < (l0.length : Int) := oD
           obtain ⟨ad104, e104, hx104_0⟩ := Kd.at_int HR0.out x4_1 p104 q104
           cases e104
           replace hx104_0 := (HB.out.cell (World.block_lt_of_cell? w _ hx104_0)).trans hx104_0
           replace p104 := eq_true p104
           replace q104 := eq_true q104
           go_wp2_with (first | ((with_reducible refine gate_builtin (b := .append) (xs := #[.tmp 27, .tmp 31]) rfl ?_); at_builtin; refine Kd.R_append k111 (w0 := w) w.heap.size rfl (.tmp 27) (.tmp 31) 107 111 (.agg #[(.int .i64 0), (.int .i64 0), (.int .i64 0)]) 24 rfl Try.underlying107 info111 rfl (by decide) (by omega) u3 x3_2 (⟨1, x4_1, x5_2⟩ : S111) [.int .i64 1, .int .i64 x4_1, .int .i64 x5_2] (fun _ => True) (fun _ => False) rfl rfl ?aP (fun _ hk => hk.elim) ?aF ?aO ?aB ?aS ?aL ?_; (case aP => exact k111_mkM _ _ _ (⟨1, x4_1, x5_2⟩ : S111)); (case aB => exact bB); (case aF => exact (fun _ _ => trivial)); (case aO => exact (aRw HO_3)); (case aS => exact (below_size bB)); (case aL => have := LMc8.out; omega); intro v106 w9 ho hb hg hat; rw [← Ny105.out] at ho; replace HB := Aside0.mk hb; have HO107 := Aside0.mk ho; clear HO_3; clear ho hb hg hat))
           go_roundg k2
           case measure => have := HK1.out; have := HK2.out; omega
           case rel => exact ⟨(y105), (wrap64 (x5_2 + 1)), bS, H', ⟨by have := HK1.out; have := HK2.out; omega⟩, ⟨aRw HO107⟩, ⟨bB⟩⟩
          ·rw [if_neg c8] at H
           exact absurd H (by simp)
         ·rw [if_neg c7] at H
          have c7b0 : decide ((wrap64 (x5_2 + 1)) < (rd l0 x4_1)) = false := decide_eq_false c7
          clear c7
          have H' := Aside0.mk H
          clear H
          have p104 : 0 ≤ (x4_1 : Int) := oD
          have q104 : x4_1 < (l0.length : Int) := oD
          obtain ⟨ad104, e104, hx104_0⟩ := Kd.at_int HR0.out x4_1 p104 q104
          cases e104
          replace hx104_0 := (HB.out.cell (World.block_lt_of_cell? w _ hx104_0)).trans hx104_0
          replace p104 := eq_true p104
          replace q104 := eq_true q104
          go_wp2
          go_loopg [3, 6] k2 (fun kq v3 v6 w' => ∃ (x3_3 : List (S111)) (x6_3 : Int), v6 = .int .i64 x6_3 ∧ Aside0 (ferruleref13_All.l2 kq l0 x3_3 x4_1 x6_3 = some r) ∧ Aside0 (kq ≤ k2) ∧ Aside0 (Kd.R k111 111 w' w.heap.size (fun _ => True) v3 x3_3) ∧ Aside0 (Below w.heap.size w w'))
          case atStart => exact ⟨(x3_2), (0), bS, H', ⟨Nat.le_refl _⟩, ⟨aRw HO_3⟩, ⟨bB⟩⟩
          case round =>
           clear H'
           try clear p1
           try clear q1
           try clear hx1
           try clear c2
           try clear c2b0
           try clear p2
           try clear c3
           try clear c5
           try clear c5b0
           try clear c6
           try clear c6b0
           try clear p6
           try clear c7
           try clear c7b0
           try clear c8
           try clear hx104_0
           try clear p104
           try clear p2
           try clear q104
           obtain ⟨x3_3, x6_3, rfl, HA, HK3, HO_3, HB⟩ := hrel
           cases gk with
           | zero => exact absurd HA.out (by simp [ferruleref13_All.l2])
           | succ k3 =>
            have H := HA.out
            clear HA
            simp only [ferruleref13_All.l2] at H
            by_cases c10 : 0 ≤ x4_1
            ·rw [if_pos c10] at H
             have c10b0 : decide (0 ≤ x4_1) = true := decide_eq_true c10
             clear c10
             by_cases c11 : x4_1 < (l0.length : Int)
             ·rw [if_pos c11] at H
              have c11b0 : decide (x4_1 < (l0.length : Int)) = true := decide_eq_true c11
              clear c11
              by_cases c12 : x6_3 < (rd l0 x4_1)
              ·rw [if_pos c12] at H
               have c12b0 : decide (x6_3 < (rd l0 x4_1)) = true := decide_eq_true c12
               clear c12
               by_cases c13 : x3_3.length < 5864062014805
               ·rw [if_pos c13] at H
                have LMc13 := Aside0.mk c13
                clear c13
                obtain ⟨y109, hy109⟩ : ∃ y_ : List (S111), y_ = (x3_3 ++ [(⟨2, x4_1, x6_3⟩ : S111)]) := ⟨_, rfl⟩
                replace H : (ferruleref13_All.l2 k3 l0 y109 x4_1 (wrap64 (x6_3 + 1))) = some r := by first | (rw [hy109]; with_reducible exact H) | (have H2_ := (Option.bind_some _ _).symm.trans H; rw [hy109]; with_reducible exact H2_) | (have H2_ := (Option.bind_some _ _).symm.trans H; with_reducible exact H2_) | with_reducible exact H | (rw [hy109]; exact H) | exact H
                have Ny109 := Aside0.mk hy109
                clear hy109
                have H' := Aside0.mk H
                clear H
                have p108 : 0 ≤ (x4_1 : Int) := oD
                have q108 : x4_1 < (l0.length : Int) := oD
                obtain ⟨ad108, e108, hx108_0⟩ := Kd.at_int HR0.out x4_1 p108 q108
                obtain rfl : ad104 = ad108 := (by injection e108)
                replace hx108_0 := (HB.out.cell (World.block_lt_of_cell? w _ hx108_0)).trans hx108_0
                replace p108 := eq_true p108
                replace q108 := eq_true q108
                go_wp2_with (first | ((with_reducible refine gate_builtin (b := .append) (xs := #[.tmp 41, .tmp 45]) rfl ?_); at_builtin; refine Kd.R_append k111 (w0 := w) w.heap.size rfl (.tmp 41) (.tmp 45) 107 111 (.agg #[(.int .i64 0), (.int .i64 0), (.int .i64 0)]) 24 rfl Try.underlying107 info111 rfl (by decide) (by omega) u3 x3_3 (⟨2, x4_1, x6_3⟩ : S111) [.int .i64 2, .int .i64 x4_1, .int .i64 x6_3] (fun _ => True) (fun _ => False) rfl rfl ?aP (fun _ hk => hk.elim) ?aF ?aO ?aB ?aS ?aL ?_; (case aP => exact k111_mkM _ _ _ (⟨2, x4_1, x6_3⟩ : S111)); (case aB => exact bB); (case aF => exact (fun _ _ => trivial)); (case aO => exact (aRw HO_3)); (case aS => exact (below_size bB)); (case aL => have := LMc13.out; omega); intro v110 w14 ho hb hg hat; rw [← Ny109.out] at ho; replace HB := Aside0.mk hb; have HO111 := Aside0.mk ho; clear HO_3; clear ho hb hg hat))
                go_roundg k3
                case measure => have := HK1.out; have := HK2.out; have := HK3.out; omega
                case rel => exact ⟨(y109), (wrap64 (x6_3 + 1)), bS, H', ⟨by have := HK1.out; have := HK2.out; have := HK3.out; omega⟩, ⟨aRw HO111⟩, ⟨bB⟩⟩
               ·rw [if_neg c13] at H
                exact absurd H (by simp)
              ·rw [if_neg c12] at H
               have c12b0 : decide (x6_3 < (rd l0 x4_1)) = false := decide_eq_false c12
               clear c12
               have H' := Aside0.mk H
               clear H
               have p108 : 0 ≤ (x4_1 : Int) := oD
               have q108 : x4_1 < (l0.length : Int) := oD
               obtain ⟨ad108, e108, hx108_0⟩ := Kd.at_int HR0.out x4_1 p108 q108
               obtain rfl : ad104 = ad108 := (by injection e108)
               replace hx108_0 := (HB.out.cell (World.block_lt_of_cell? w _ hx108_0)).trans hx108_0
               replace p108 := eq_true p108
               replace q108 := eq_true q108
               go_wp2
               go_roundg k3
               case measure => have := HK1.out; have := HK2.out; have := HK3.out; omega
               case rel => exact ⟨(x3_3), (wrap64 (x4_1 + 1)), bS, H', ⟨by have := HK1.out; have := HK2.out; have := HK3.out; omega⟩, ⟨aRw HO_3⟩, ⟨bB⟩⟩
             ·rw [if_neg c11] at H
              exact absurd H (by simp)
            ·rw [if_neg c10] at H
             exact absurd H (by simp)
        ·rw [if_neg c6] at H
         exact absurd H (by simp)
       ·rw [if_neg c5] at H
        exact absurd H (by simp)
    ·rw [if_neg c3] at H
     exact absurd H (by simp)
   ·rw [if_neg c2] at H
    have c2b0 : decide (x4_1 < (l0.length : Int)) = false := decide_eq_false c2
    clear c2
    obtain rfl := Option.some.inj H
    go_wp2
    go_ret
    exact ⟨_, by first | rfl | (simp [errW_none, errW_some] <;> rfl) | (simp [*, errW_none, errW_some] <;> rfl), aRw HO_3, bB⟩

end Go.Proofs.Ytcebjhbphcoboaa.X
