-- Written by a program of this session (wip/xp), out of the translation. Not trusted: Lean checks it.
import Derived.Test.YtildmfegfkiknaaDoorX0
import Derived.Test.YtildmfegfkiknaaDoorXm
import Derived.Test.YtildmfegfkiknaaDoorXn48
-- shrunk
namespace Go.Proofs.YtildmfegfkiknaaDoor.X
open Go.RowKit Go.Proofs.YtildmfegfkiknaaDoorW.PrintWords Go.Proofs.YtildmfegfkiknaaDoorW.PrintLast Go.Proofs.YtildmfegfkiknaaDoorW.PrintMore
attribute [local go_sem] Lab.str_gtr Lab.str_leq Lab.str_geq max2_int min2_int max_two min_two max_three min_three max_four min_four   -- for this text's walks alone
set_option linter.unusedVariables false
set_option linter.unusedSimpArgs false

/-! ### ident_Row: function 15 -/
mutual
def ident_Row.j0 : Nat → List Int → Int → Bool → List ByteArray → Bool → Option (List ByteArray × Int × Int)
 | 0, _, _, _, _, _ => none
 | k + 1, x0, x1, x2, x6, x20 => if x20 = true then (some (([] : List ByteArray), 0, 1)) else (ident_Row.l0 k x0 x1 x2 x6 x1 x1)
def ident_Row.l0 : Nat → List Int → Int → Bool → List ByteArray → Int → Int → Option (List ByteArray × Int × Int)
 | 0, _, _, _, _, _, _ => none
 | k + 1, x0, x1, x2, x6, x9, x10 => if x10 < (x0.length : Int) then (if 0 ≤ x10 then ((ident_isByte.f (rd x0 x10)).bind fun t102 => (ident_Row.j2 k x0 x1 x2 x6 x9 x10 t102)) else (none)) else (ident_Row.j2 k x0 x1 x2 x6 x9 x10 false)
def ident_Row.j2 : Nat → List Int → Int → Bool → List ByteArray → Int → Int → Bool → Option (List ByteArray × Int × Int)
 | 0, _, _, _, _, _, _, _ => none
 | k + 1, x0, x1, x2, x6, x9, x10, x33 => if x33 = true then (ident_Row.l0 k x0 x1 x2 x6 x9 (wrap64 (x10 + 1))) else (if 0 ≤ x9 then (if x9 ≤ x10 then (if x10 ≤ (x0.length : Int) then ((ident_check.f k (strOfNums ((x0.take (x10 : Int).toNat).drop (x9 : Int).toNat)) (x6.length : Int) x2).bind fun t104 => (if t104 = 0 then (if x6.length < 8796093022208 then ((some (x6 ++ [strOfNums ((x0.take (x10 : Int).toNat).drop (x9 : Int).toNat)] : List ByteArray)).bind fun y105 => (if x10 < (x0.length : Int) then (if 0 ≤ x10 then (if (rd x0 x10) = 46 then (ident_Row.l0 k x0 x1 x2 y105 (wrap64 (x10 + 1)) (wrap64 (x10 + 1))) else (some (y105, wrap64 (x10 - x1), 0))) else (none)) else (some (y105, wrap64 (x10 - x1), 0)))) else (none)) else (some (([] : List ByteArray), 0, t104)))) else (none)) else (none)) else (none))
end
def ident_Row.f (k : Nat) (l0 : List Int) (a1 : Int) (a2 : Bool) : Option (List ByteArray × Int × Int) := if a1 < 0 then (ident_Row.j0 k l0 a1 a2 ([] : List ByteArray) true) else (ident_Row.j0 k l0 a1 a2 ([] : List ByteArray) (decide (a1 > (l0.length : Int))))
theorem ident_Row.mono_l : ∀ k, (∀ y0 y1 y2 y3 y4, LeO (ident_Row.j0 k y0 y1 y2 y3 y4) (ident_Row.j0 (k + 1) y0 y1 y2 y3 y4)) ∧ (∀ y0 y1 y2 y3 y4 y5, LeO (ident_Row.l0 k y0 y1 y2 y3 y4 y5) (ident_Row.l0 (k + 1) y0 y1 y2 y3 y4 y5)) ∧ (∀ y0 y1 y2 y3 y4 y5 y6, LeO (ident_Row.j2 k y0 y1 y2 y3 y4 y5 y6) (ident_Row.j2 (k + 1) y0 y1 y2 y3 y4 y5 y6))
 | 0 => ⟨fun _ _ _ _ _ r h => by simp [ident_Row.j0] at h, fun _ _ _ _ _ _ r h => by simp [ident_Row.l0] at h, fun _ _ _ _ _ _ _ r h => by simp [ident_Row.j2] at h⟩
 | k + 1 => by
  obtain ⟨ih0, ih1, ih2⟩ := ident_Row.mono_l k
  refine ⟨?_, ?_, ?_⟩
  ·intro y0 y1 y2 y3 y4
   unfold ident_Row.j0
   repeat' first
   | (with_reducible exact ih0 _ _ _ _ _)
   | (with_reducible exact ih1 _ _ _ _ _ _)
   | (with_reducible exact ih2 _ _ _ _ _ _ _)
   | (with_reducible exact ident_check.mono _ _ _ _)
   | (with_reducible exact LeO.refl _)
   | (with_reducible exact LeO.none _)
   | (with_reducible refine LeO.ite ?_ ?_)
   | (with_reducible refine LeO.bind ?_ (fun _ => ?_))
   | exact ih0 _ _ _ _ _
   | exact ih1 _ _ _ _ _ _
   | exact ih2 _ _ _ _ _ _ _
   | exact ident_check.mono _ _ _ _
   | exact LeO.none _
   | refine LeO.ite ?_ ?_
   | refine LeO.bind ?_ (fun _ => ?_)
  ·intro y0 y1 y2 y3 y4 y5
   unfold ident_Row.l0
   repeat' first
   | (with_reducible exact ih0 _ _ _ _ _)
   | (with_reducible exact ih1 _ _ _ _ _ _)
   | (with_reducible exact ih2 _ _ _ _ _ _ _)
   | (with_reducible exact ident_check.mono _ _ _ _)
   | (with_reducible exact LeO.refl _)
   | (with_reducible exact LeO.none _)
   | (with_reducible refine LeO.ite ?_ ?_)
   | (with_reducible refine LeO.bind ?_ (fun _ => ?_))
   | exact ih0 _ _ _ _ _
   | exact ih1 _ _ _ _ _ _
   | exact ih2 _ _ _ _ _ _ _
   | exact ident_check.mono _ _ _ _
   | exact LeO.none _
   | refine LeO.ite ?_ ?_
   | refine LeO.bind ?_ (fun _ => ?_)
  ·intro y0 y1 y2 y3 y4 y5 y6
   unfold ident_Row.j2
   repeat' first
   | (with_reducible exact ih0 _ _ _ _ _)
   | (with_reducible exact ih1 _ _ _ _ _ _)
   | (with_reducible exact ih2 _ _ _ _ _ _ _)
   | (with_reducible exact ident_check.mono _ _ _ _)
   | (with_reducible exact LeO.refl _)
   | (with_reducible exact LeO.none _)
   | (with_reducible refine LeO.ite ?_ ?_)
   | (with_reducible refine LeO.bind ?_ (fun _ => ?_))
   | exact ih0 _ _ _ _ _
   | exact ih1 _ _ _ _ _ _
   | exact ih2 _ _ _ _ _ _ _
   | exact ident_check.mono _ _ _ _
   | exact LeO.none _
   | refine LeO.ite ?_ ?_
   | refine LeO.bind ?_ (fun _ => ?_)
theorem ident_Row.mono : ∀ a0 a1 a2 k, LeO (ident_Row.f k a0 a1 a2) (ident_Row.f (k + 1) a0 a1 a2) := by
 intro a0 a1 a2 k
 obtain ⟨ih0, ih1, ih2⟩ := ident_Row.mono_l k
 unfold ident_Row.f
 repeat' first
   | (with_reducible exact ih0 _ _ _ _ _)
   | (with_reducible exact ih1 _ _ _ _ _ _)
   | (with_reducible exact ih2 _ _ _ _ _ _ _)
   | (with_reducible exact ident_check.mono _ _ _ _)
   | (with_reducible exact LeO.refl _)
   | (with_reducible exact LeO.none _)
   | (with_reducible refine LeO.ite ?_ ?_)
   | (with_reducible refine LeO.bind ?_ (fun _ => ?_))
   | exact ih0 _ _ _ _ _
   | exact ih1 _ _ _ _ _ _
   | exact ih2 _ _ _ _ _ _ _
   | exact ident_check.mono _ _ _ _
   | exact LeO.none _
   | refine LeO.ite ?_ ?_
   | refine LeO.bind ?_ (fun _ => ?_)
set_option maxHeartbeats 8000000 in
set_option maxRecDepth 100000 in
theorem ident_Row.calls (k : Nat) (A0 : Option Addr) (c0 : Nat) (l0 : List Int) (a1 : Int) (a2 : Bool) (r1 : List ByteArray) (r2 : Int) (r3 : Int) (w : World) (hr0 : Kd.C (Kd.int .u8) w A0 l0.length l0) (hc0 : l0.length ≤ c0) (h : ident_Row.f k l0 a1 a2 = some (r1, r2, r3)) :
  Calls Tryd.prog 15 #[.slice A0 l0.length c0, .int .i64 a1, .bool a2] w fun e w' => ∃ v0_ : Value, e = .returned (.tuple #[v0_, .int .i64 r2, .int .i64 r3]) ∧ Kd.R Kd.string 9 w' w.heap.size (fun _ => True) v0_ r1 ∧ Below w.heap.size w w' := by
 have HR0 := Aside0.mk hr0
 have HC0 := Aside0.mk hc0
 clear hr0 hc0
 have HB := Aside0.mk (Below.refl w.heap.size w)
 have H : (if a1 < 0 then (ident_Row.j0 k l0 a1 a2 ([] : List ByteArray) true) else (ident_Row.j0 k l0 a1 a2 ([] : List ByteArray) (decide (a1 > (l0.length : Int))))) = some (r1, r2, r3) := h
 clear h
 have HC4 := Aside0.mk H
 clear H
 go_enter Tryd.func15, Tryd.ntmps15
 go_wp2
 refine Lab.wp_scope_lab (Lab.scopeOf Tryd.f15) ?sc k ?_
 case sc => kernel_rfl
 go_upto_region 1 with (fail)
 go_cut [20] (fun v20 wc => ∃ (kq : Nat) (x20_3 : Bool), v20 = .bool x20_3 ∧ Aside0 (ident_Row.j0 kq l0 a1 a2 ([] : List ByteArray) x20_3 = some (r1, r2, r3)) ∧ Aside0 (kq ≤ k) ∧ Aside0 (Kd.R Kd.string 9 wc w.heap.size (fun _ => True) (.slice none 0 0) ([] : List ByteArray)) ∧ Aside0 (Below w.heap.size w wc))
 case first =>
  have H := HC4.out
  clear HC4
  by_cases c5 : a1 < 0
  ·rw [if_pos c5] at H
   have c5b0 : decide (a1 < 0) = true := decide_eq_true c5
   clear c5
   (first | rw [c5b0] | (simp only [i64_w, i32_w]; rw [c5b0]) | skip)
   have H' := Aside0.mk H
   clear H
   go_wp2
   go_meet
   case rel => exact ⟨_, (true), bS, H', ⟨by first | omega | exact Nat.le_refl _⟩, ⟨by first | exact Kd.R_nil _ _ _ _ _ | exact Kd.N_nil _ _ _ _ _ | exact Kd.V_nil _ _ _ _ _ | exact Kd.Q_nil _ _ _ _ _ | exact Kd.S_nil _ _ _ _ _⟩, ⟨bB⟩⟩
  ·rw [if_neg c5] at H
   have c5b0 : decide (a1 < 0) = false := decide_eq_false c5
   clear c5
   (first | rw [c5b0] | (simp only [i64_w, i32_w]; rw [c5b0]) | skip)
   have H' := Aside0.mk H
   clear H
   go_wp2
   go_meet
   case rel => exact ⟨_, (decide (a1 > (l0.length : Int))), bS, H', ⟨by first | omega | exact Nat.le_refl _⟩, ⟨by first | exact Kd.R_nil _ _ _ _ _ | exact Kd.N_nil _ _ _ _ _ | exact Kd.V_nil _ _ _ _ _ | exact Kd.Q_nil _ _ _ _ _ | exact Kd.S_nil _ _ _ _ _⟩, ⟨bB⟩⟩
 case rest =>
  clear HC4
  try clear c1
  try clear p2
  try clear c5
  try clear c5b0
  obtain ⟨kq, x20_3, rfl, HA, HJ3, HO_6, HB⟩ := hcut
  cases kq with
  | zero => exact absurd HA.out (by simp [ident_Row.j0])
  | succ kj3 =>
   have H := HA.out
   clear HA
   simp only [ident_Row.j0] at H
   by_cases c6 : x20_3 = true
   ·subst c6
    have H1 : (some (([] : List ByteArray), 0, 1)) = some (r1, r2, r3) := by rw [if_pos rfl] at H; exact H
    clear H
    have H := H1
    clear H1
    simp only [Option.some.injEq, Prod.mk.injEq] at H
    obtain ⟨rfl, rfl, rfl⟩ := H
    go_wp2
    (try simp only [Exit.then, Exit.inBlock, Lab.gotos])
    go_ret3
    exact ⟨_, by first | rfl | (simp [errW_none, errW_some] <;> rfl) | (simp [*, errW_none, errW_some] <;> rfl), by first | exact Kd.R_nil _ _ _ _ _ | exact Kd.N_nil _ _ _ _ _ | exact Kd.V_nil _ _ _ _ _ | exact Kd.Q_nil _ _ _ _ _ | exact Kd.S_nil _ _ _ _ _, bB⟩
   ·replace c6 := Bool.eq_false_iff.mpr c6
    subst c6
    have H1 : (ident_Row.l0 kj3 l0 a1 a2 ([] : List ByteArray) a1 a1) = some (r1, r2, r3) := by rw [if_neg (show ¬ (false = true) by decide)] at H; exact H
    clear H
    have H := H1
    clear H1
    have H' := Aside0.mk H
    clear H
    go_wp2
    go_step3
    go_step
    (try go_step)
    refine Lab.wp_at_label (l := 0) (fun a0_ kq a_ w_ => ∃ u6 u9 u10 : Value, ((fun kq v6 v9 v10 w' => ∃ (x6_2 : List ByteArray) (x9_2 : Int) (x10_2 : Int), v9 = .int .i64 x9_2 ∧ v10 = .int .i64 x10_2 ∧ Aside0 (ident_Row.l0 kq l0 a1 a2 x6_2 x9_2 x10_2 = some (r1, r2, r3)) ∧ Aside0 (kq ≤ kj3) ∧ Aside0 (Kd.R Kd.string 9 w' w.heap.size (fun _ => True) v6 x6_2) ∧ Aside0 (Below w.heap.size w w')) kq u6 u9 u10 w_) ∧ a_ = (((((((((((((((((((((((((((((((((((((((((((((((((((((((((((((((((a0_.put (some 6) u6).put (some 7) (Lab.tmp a_ 7)).put (some 8) (Lab.tmp a_ 8)).put (some 9) u9).put (some 10) u10).put (some 11) (Lab.tmp a_ 11)).put (some 12) (Lab.tmp a_ 12)).put (some 13) (Lab.tmp a_ 13)).put (some 14) (Lab.tmp a_ 14)).put (some 15) (Lab.tmp a_ 15)).put (some 16) (Lab.tmp a_ 16)).put (some 17) (Lab.tmp a_ 17)).put (some 18) (Lab.tmp a_ 18)).put (some 19) (Lab.tmp a_ 19)).put (some 20) (Lab.tmp a_ 20)).put (some 21) (Lab.tmp a_ 21)).put (some 22) (Lab.tmp a_ 22)).put (some 23) (Lab.tmp a_ 23)).put (some 24) (Lab.tmp a_ 24)).put (some 25) (Lab.tmp a_ 25)).put (some 26) (Lab.tmp a_ 26)).put (some 27) (Lab.tmp a_ 27)).put (some 28) (Lab.tmp a_ 28)).put (some 29) (Lab.tmp a_ 29)).put (some 30) (Lab.tmp a_ 30)).put (some 31) (Lab.tmp a_ 31)).put (some 32) (Lab.tmp a_ 32)).put (some 33) (Lab.tmp a_ 33)).put (some 34) (Lab.tmp a_ 34)).put (some 35) (Lab.tmp a_ 35)).put (some 36) (Lab.tmp a_ 36)).put (some 37) (Lab.tmp a_ 37)).put (some 38) (Lab.tmp a_ 38)).put (some 39) (Lab.tmp a_ 39)).put (some 40) (Lab.tmp a_ 40)).put (some 41) (Lab.tmp a_ 41)).put (some 42) (Lab.tmp a_ 42)).put (some 43) (Lab.tmp a_ 43)).put (some 44) (Lab.tmp a_ 44)).put (some 45) (Lab.tmp a_ 45)).put (some 46) (Lab.tmp a_ 46)).put (some 47) (Lab.tmp a_ 47)).put (some 48) (Lab.tmp a_ 48)).put (some 49) (Lab.tmp a_ 49)).put (some 50) (Lab.tmp a_ 50)).put (some 51) (Lab.tmp a_ 51)).put (some 52) (Lab.tmp a_ 52)).put (some 53) (Lab.tmp a_ 53)).put (some 54) (Lab.tmp a_ 54)).put (some 55) (Lab.tmp a_ 55)).put (some 56) (Lab.tmp a_ 56)).put (some 57) (Lab.tmp a_ 57)).put (some 58) (Lab.tmp a_ 58)).put (some 59) (Lab.tmp a_ 59)).put (some 60) (Lab.tmp a_ 60)).put (some 61) (Lab.tmp a_ 61)).put (some 62) (Lab.tmp a_ 62)).put (some 63) (Lab.tmp a_ 63)).put (some 64) (Lab.tmp a_ 64)).put (some 65) (Lab.tmp a_ 65)).put (some 66) (Lab.tmp a_ 66)).put (some 67) (Lab.tmp a_ 67)).put (some 68) (Lab.tmp a_ 68)).put (some 69) (Lab.tmp a_ 69)).put (some 70) (Lab.tmp a_ 70))) kj3 ?fl (by have := HJ3.out; first | omega | exact Nat.le_refl _) ?atStart ?round
    case fl => kernel_rfl
    case atStart =>
     (repeat apply Exists.intro)
     refine ⟨?rel, ?fr⟩
     case fr => (simp only [Act.put, List.setIfInBounds_toArray, List.set_cons_zero, List.set_cons_succ] <;> rfl)
     case rel => exact ⟨(([] : List ByteArray)), (a1), (a1), bS, bS, H', ⟨Nat.le_refl _⟩, ⟨aRw HO_6⟩, ⟨bB⟩⟩
    case round =>
     intro gk a_ wr hle_ hinv HIH_0
     clear hle_
     obtain ⟨u6, u9, u10, hrel, hfr_⟩ := hinv
     generalize hU_ : Lab.tmp a_ = U_ at hfr_
     clear hU_
     subst hfr_
     (try dsimp only at hrel)
     simp only [Act.put, List.setIfInBounds_toArray, List.set_cons_zero, List.set_cons_succ]
     clear H'
     try clear c1
     try clear p2
     try clear p3
     try clear c5
     try clear c5b0
     try clear c6
     try clear p6
     try clear p2
     obtain ⟨x6_2, x9_2, x10_2, rfl, rfl, HA, HK2, HO_6, HB⟩ := hrel
     cases gk with
     | zero => exact absurd HA.out (by simp [ident_Row.l0])
     | succ k2 =>
      have H := HA.out
      clear HA
      simp only [ident_Row.l0] at H
      have HC7 := Aside0.mk H
      clear H
      go_upto_region 4 with (fail)
      go_cut [33] (fun v33 wc => ∃ (kq : Nat) (x33_6 : Bool), v33 = .bool x33_6 ∧ Aside0 (ident_Row.j2 kq l0 a1 a2 x6_2 x9_2 x10_2 x33_6 = some (r1, r2, r3)) ∧ Aside0 (kq ≤ k2) ∧ Aside0 (Kd.R Kd.string 9 wc w.heap.size (fun _ => True) u6 x6_2) ∧ Aside0 (Below w.heap.size w wc))
      case first =>
       have H := HC7.out
       clear HC7
       by_cases c8 : x10_2 < (l0.length : Int)
       ·rw [if_pos c8] at H
        have c8b0 : decide (x10_2 < (l0.length : Int)) = true := decide_eq_true c8
        clear c8
        (first | rw [c8b0] | (simp only [i64_w, i32_w]; rw [c8b0]) | skip)
        by_cases c9 : 0 ≤ x10_2
        ·rw [if_pos c9] at H
         have c9b0 : decide (0 ≤ x10_2) = true := decide_eq_true c9
         clear c9
         replace H := Option.bind_eq_some_iff.mp H
         obtain ⟨t102, A100, H⟩ := H
         replace H : (ident_Row.j2 k2 l0 a1 a2 x6_2 x9_2 x10_2 t102) = some (r1, r2, r3) := H
         have A10 := Aside0.mk A100
         clear A100
         have H' := Aside0.mk H
         clear H
         have p101 : 0 ≤ (x10_2 : Int) := oD
         have q101 : x10_2 < (l0.length : Int) := oD
         obtain ⟨ad101, e101, hx101_0⟩ := Kd.at_int HR0.out x10_2 p101 q101
         cases e101
         replace hx101_0 := (HB.out.cell (World.block_lt_of_cell? w _ hx101_0)).trans hx101_0
         replace p101 := eq_true p101
         replace q101 := eq_true q101
         go_wp2_with (first | (go_at_call 47; (with_reducible refine (ident_isByte.calls (rd l0 x10_2) t102 _ A10.out).mono ?_); rintro e w' ⟨rfl, ⟨nd, rfl⟩⟩))
         go_meet
         case rel => exact ⟨_, (t102), bS, H', ⟨by have := HJ3.out; have := HK2.out; first | omega | exact Nat.le_refl _⟩, ⟨aRw HO_6⟩, ⟨bB⟩⟩
        ·rw [if_neg c9] at H
         exact absurd H (by simp)
       ·rw [if_neg c8] at H
        have c8b0 : decide (x10_2 < (l0.length : Int)) = false := decide_eq_false c8
        clear c8
        (first | rw [c8b0] | (simp only [i64_w, i32_w]; rw [c8b0]) | skip)
        have H' := Aside0.mk H
        clear H
        go_wp2
        go_meet
        case rel => exact ⟨_, (false), bS, H', ⟨by have := HJ3.out; have := HK2.out; first | omega | exact Nat.le_refl _⟩, ⟨aRw HO_6⟩, ⟨bB⟩⟩
      case rest =>
       clear HC7
       try clear c1
       try clear p1
       try clear q1
       try clear hx1
       try clear p2
       try clear p3
       try clear c5
       try clear c5b0
       try clear c6
       try clear p6
       try clear c8
       try clear c8b0
       try clear c9
       try clear c9b0
       try clear p10
       try clear q10
       try clear hx10
       try clear hx101_0
       try clear p101
       try clear p2
       try clear p3
       try clear p6
       try clear q101
       obtain ⟨kq, x33_6, rfl, HA, HJ6, HO_6, HB⟩ := hcut
       cases kq with
       | zero => exact absurd HA.out (by simp [ident_Row.j2])
       | succ kj6 =>
        have H := HA.out
        clear HA
        simp only [ident_Row.j2] at H
        by_cases c11 : x33_6 = true
        ·subst c11
         have H1 : (ident_Row.l0 kj6 l0 a1 a2 x6_2 x9_2 (wrap64 (x10_2 + 1))) = some (r1, r2, r3) := by rw [if_pos rfl] at H; exact H
         clear H
         have H := H1
         clear H1
         have H' := Aside0.mk H
         clear H
         go_wp2
         go_step3
         (try simp only [Exit.then, Exit.inBlock, Lab.gotos])
         refine Lab.again HIH_0 kj6 ?lm1 ?lm2 ?lm3
         case lm1 => have := HJ3.out; have := HK2.out; have := HJ6.out; omega
         case lm2 => have := HJ3.out; have := HK2.out; have := HJ6.out; omega
         case lm3 =>
          (repeat apply Exists.intro)
          refine ⟨?rel, ?fr⟩
          case fr => (simp only [Act.put, List.setIfInBounds_toArray, List.set_cons_zero, List.set_cons_succ] <;> rfl)
          case rel => exact ⟨(x6_2), (x9_2), (wrap64 (x10_2 + 1)), bS, bS, H', ⟨by have := HJ3.out; have := HK2.out; have := HJ6.out; omega⟩, ⟨aRw HO_6⟩, ⟨bB⟩⟩
        ·replace c11 := Bool.eq_false_iff.mpr c11
         subst c11
         have H1 : (if 0 ≤ x9_2 then (if x9_2 ≤ x10_2 then (if x10_2 ≤ (l0.length : Int) then ((ident_check.f kj6 (strOfNums ((l0.take (x10_2 : Int).toNat).drop (x9_2 : Int).toNat)) (x6_2.length : Int) a2).bind fun t104 => (if t104 = 0 then (if x6_2.length < 8796093022208 then ((some (x6_2 ++ [strOfNums ((l0.take (x10_2 : Int).toNat).drop (x9_2 : Int).toNat)] : List ByteArray)).bind fun y105 => (if x10_2 < (l0.length : Int) then (if 0 ≤ x10_2 then (if (rd l0 x10_2) = 46 then (ident_Row.l0 kj6 l0 a1 a2 y105 (wrap64 (x10_2 + 1)) (wrap64 (x10_2 + 1))) else (some (y105, wrap64 (x10_2 - a1), 0))) else (none)) else (some (y105, wrap64 (x10_2 - a1), 0)))) else (none)) else (some (([] : List ByteArray), 0, t104)))) else (none)) else (none)) else (none)) = some (r1, r2, r3) := by rw [if_neg (show ¬ (false = true) by decide)] at H; exact H
         clear H
         have H := H1
         clear H1
         by_cases c12 : 0 ≤ x9_2
         ·rw [if_pos c12] at H
          have c12b0 := eq_true c12
          have c12b1 : decide (0 ≤ x9_2) = true := decide_eq_true c12
          clear c12
          by_cases c13 : x9_2 ≤ x10_2
          ·rw [if_pos c13] at H
           have c13b0 := eq_true c13
           have c13b1 : decide (x9_2 ≤ x10_2) = true := decide_eq_true c13
           clear c13
           by_cases c14 : x10_2 ≤ (l0.length : Int)
           ·rw [if_pos c14] at H
            have c14b0 := eq_true c14
            have c14b1 : decide (x10_2 ≤ (l0.length : Int)) = true := decide_eq_true c14
            clear c14
            replace H := Option.bind_eq_some_iff.mp H
            obtain ⟨t104, A150, H⟩ := H
            replace H : (if t104 = 0 then (if x6_2.length < 8796093022208 then ((some (x6_2 ++ [strOfNums ((l0.take (x10_2 : Int).toNat).drop (x9_2 : Int).toNat)] : List ByteArray)).bind fun y105 => (if x10_2 < (l0.length : Int) then (if 0 ≤ x10_2 then (if (rd l0 x10_2) = 46 then (ident_Row.l0 kj6 l0 a1 a2 y105 (wrap64 (x10_2 + 1)) (wrap64 (x10_2 + 1))) else (some (y105, wrap64 (x10_2 - a1), 0))) else (none)) else (some (y105, wrap64 (x10_2 - a1), 0)))) else (none)) else (some (([] : List ByteArray), 0, t104))) = some (r1, r2, r3) := H
            have A15 := Aside0.mk A150
            clear A150
            by_cases c16 : t104 = 0
            ·rw [if_pos c16] at H
             have c16b0 : (t104 == 0) = true := beq_iff_eq.mpr c16
             have c16b1 : (t104 != 0) = false := bne_eq_false_iff_eq.mpr c16
             clear c16
             by_cases c17 : x6_2.length < 8796093022208
             ·rw [if_pos c17] at H
              have LMc17 := Aside0.mk c17
              clear c17
              obtain ⟨y105, hy105⟩ : ∃ y_ : List ByteArray, y_ = (x6_2 ++ [strOfNums ((l0.take (x10_2 : Int).toNat).drop (x9_2 : Int).toNat)]) := ⟨_, rfl⟩
              replace H : (if x10_2 < (l0.length : Int) then (if 0 ≤ x10_2 then (if (rd l0 x10_2) = 46 then (ident_Row.l0 kj6 l0 a1 a2 y105 (wrap64 (x10_2 + 1)) (wrap64 (x10_2 + 1))) else (some (y105, wrap64 (x10_2 - a1), 0))) else (none)) else (some (y105, wrap64 (x10_2 - a1), 0))) = some (r1, r2, r3) := by first | (rw [hy105]; with_reducible exact H) | (have H2_ := (Option.bind_some _ _).symm.trans H; rw [hy105]; with_reducible exact H2_) | (have H2_ := (Option.bind_some _ _).symm.trans H; with_reducible exact H2_) | with_reducible exact H | (rw [hy105]; exact H) | exact H
              have Ny105 := Aside0.mk hy105
              clear hy105
              by_cases c18 : x10_2 < (l0.length : Int)
              ·rw [if_pos c18] at H
               have c18b0 : decide (x10_2 < (l0.length : Int)) = true := decide_eq_true c18
               clear c18
               by_cases c19 : 0 ≤ x10_2
               ·rw [if_pos c19] at H
                have c19b0 : decide (0 ≤ x10_2) = true := decide_eq_true c19
                clear c19
                by_cases c20 : (rd l0 x10_2) = 46
                ·rw [if_pos c20] at H
                 have c20b0 : ((rd l0 x10_2) == 46) = true := beq_iff_eq.mpr c20
                 have c20b1 : ((rd l0 x10_2) != 46) = false := bne_eq_false_iff_eq.mpr c20
                 clear c20
                 have H' := Aside0.mk H
                 clear H
                 obtain ⟨i021, hi021, _, hsz21, _⟩ := info_parts info5
                 obtain ⟨A21, hcut21, hA21, hC21⟩ := print_mid_of (P := Tryd.prog) (Value.int .u8) 0 22 5 .i64 .i64 Tryd.underlying22 hi021 hsz21 A0 c0 l0 x9_2 x10_2 oD (by first | omega | exact oD) oD HC0.out
                 have HR103 := Aside0.mk (Kd.C_of_reads (h1 := fun _ => rfl) (hA21 _ (Kd.reads_of_C HR0.out)))
                 have HC103 := Aside0.mk hC21
                 clear hA21 hC21 hi021 hsz21
                 have hcv22 := Kd.C_string (P := Tryd.prog) (A := A21) (c := (c0 - x9_2.toNat)) Tryd.underlying22 Tryd.underlying5 Tryd.underlying9 (Kd.C_below HR103.out HB.out)
                 have hcv22_ := hcv22
                 rw [show ((l0.take (x10_2 : Int).toNat).drop (x9_2 : Int).toNat).length = (x10_2.toNat - x9_2.toNat) from (by rw [List.length_drop, List.length_take]; have h_ : (x10_2 : Int) ≤ (l0.length : Int) := oD; omega)] at hcv22_
                 obtain ⟨Ao23, co23, eo23⟩ := Kd.R_slice HO_6.out
                 subst eo23
                 go_wp2_with (first | ((with_reducible refine gate_callee (f := 48) rfl ?_); refine goesL_ (some 45) rfl rfl Tryd.func48 (by kernel_rfl) rfl #[.string (strOfNums ((l0.take (x10_2 : Int).toNat).drop (x9_2 : Int).toNat)), .int .i64 (x6_2.length : Int), .bool a2] rfl bM ?_; (with_reducible refine (ident_check.calls kj6 (strOfNums ((l0.take (x10_2 : Int).toNat).drop (x9_2 : Int).toNat)) (x6_2.length : Int) a2 t104 _ A15.out).mono ?_); rintro e w24 ⟨rfl, hb⟩; refine ⟨_, rfl, ?_⟩; replace HO_6 := aR HO_6 hb; replace HB := aB HB hb; (try clear hb); (try clear hb2); (try clear hk); (try clear hi)) | ((with_reducible refine gate_builtin (b := .append) (xs := #[.tmp 49, .tmp 51]) rfl ?_); (try (refine gate_guard (by rfl) ?_; dsimp only)); at_builtin; refine Kd.R_append Kd.string (w0 := w) w.heap.size rfl (.tmp 49) (.tmp 51) 24 9 (.string ⟨#[]⟩) 16 rfl Tryd.underlying24 info9 rfl (by decide) (by omega) (.slice Ao23 x6_2.length co23) x6_2 (strOfNums ((l0.take (x10_2 : Int).toNat).drop (x9_2 : Int).toNat)) [.string (strOfNums ((l0.take (x10_2 : Int).toNat).drop (x9_2 : Int).toNat))] (fun _ => True) (fun _ => False) rfl rfl ?aP (fun _ hk => hk.elim) ?aF ?aO ?aB ?aS ?aL ?_; (case aP => exact rfl); (case aB => exact bB); (case aF => exact (fun _ _ => trivial)); (case aO => exact (aRw HO_6)); (case aS => exact (below_size bB)); (case aL => have := LMc17.out; omega); intro v106 w25 ho hb hg hat; rw [← Ny105.out] at ho; replace HB := Aside0.mk hb; have HO107 := Aside0.mk ho; clear HO_6; clear ho hb hg hat; have p108 : 0 ≤ (x10_2 : Int) := oD; have q108 : x10_2 < (l0.length : Int) := oD; obtain ⟨ad108, e108, hx108_0⟩ := Kd.at_int HR0.out x10_2 p108 q108; cases e108; replace hx108_0 := (HB.out.cell (World.block_lt_of_cell? w _ hx108_0)).trans hx108_0; replace p108 := eq_true p108; replace q108 := eq_true q108))
                 go_step3
                 (try simp only [Exit.then, Exit.inBlock, Lab.gotos])
                 refine Lab.again HIH_0 kj6 ?lm1 ?lm2 ?lm3
                 case lm1 => have := HJ3.out; have := HK2.out; have := HJ6.out; omega
                 case lm2 => have := HJ3.out; have := HK2.out; have := HJ6.out; omega
                 case lm3 =>
                  (repeat apply Exists.intro)
                  refine ⟨?rel, ?fr⟩
                  case fr => (simp only [Act.put, List.setIfInBounds_toArray, List.set_cons_zero, List.set_cons_succ] <;> rfl)
                  case rel => exact ⟨(y105), (wrap64 (x10_2 + 1)), (wrap64 (x10_2 + 1)), bS, bS, H', ⟨by have := HJ3.out; have := HK2.out; have := HJ6.out; omega⟩, ⟨aRw HO107⟩, ⟨bB⟩⟩
                ·rw [if_neg c20] at H
                 have c20b0 : ((rd l0 x10_2) == 46) = false := beq_eq_false_iff_ne.mpr c20
                 have c20b1 : ((rd l0 x10_2) != 46) = true := bne_iff_ne.mpr c20
                 simp only [Option.some.injEq, Prod.mk.injEq] at H
                 obtain ⟨rfl, rfl, rfl⟩ := H
                 obtain ⟨i026, hi026, _, hsz26, _⟩ := info_parts info5
                 obtain ⟨A26, hcut26, hA26, hC26⟩ := print_mid_of (P := Tryd.prog) (Value.int .u8) 0 22 5 .i64 .i64 Tryd.underlying22 hi026 hsz26 A0 c0 l0 x9_2 x10_2 oD (by first | omega | exact oD) oD HC0.out
                 have HR103 := Aside0.mk (Kd.C_of_reads (h1 := fun _ => rfl) (hA26 _ (Kd.reads_of_C HR0.out)))
                 have HC103 := Aside0.mk hC26
                 clear hA26 hC26 hi026 hsz26
                 have hcv27 := Kd.C_string (P := Tryd.prog) (A := A26) (c := (c0 - x9_2.toNat)) Tryd.underlying22 Tryd.underlying5 Tryd.underlying9 (Kd.C_below HR103.out HB.out)
                 have hcv27_ := hcv27
                 rw [show ((l0.take (x10_2 : Int).toNat).drop (x9_2 : Int).toNat).length = (x10_2.toNat - x9_2.toNat) from (by rw [List.length_drop, List.length_take]; have h_ : (x10_2 : Int) ≤ (l0.length : Int) := oD; omega)] at hcv27_
                 obtain ⟨Ao28, co28, eo28⟩ := Kd.R_slice HO_6.out
                 subst eo28
                 go_wp2_with (first | ((with_reducible refine gate_callee (f := 48) rfl ?_); refine goesL_ (some 45) rfl rfl Tryd.func48 (by kernel_rfl) rfl #[.string (strOfNums ((l0.take (x10_2 : Int).toNat).drop (x9_2 : Int).toNat)), .int .i64 (x6_2.length : Int), .bool a2] rfl bM ?_; (with_reducible refine (ident_check.calls kj6 (strOfNums ((l0.take (x10_2 : Int).toNat).drop (x9_2 : Int).toNat)) (x6_2.length : Int) a2 t104 _ A15.out).mono ?_); rintro e w29 ⟨rfl, hb⟩; refine ⟨_, rfl, ?_⟩; replace HO_6 := aR HO_6 hb; replace HB := aB HB hb; (try clear hb); (try clear hb2); (try clear hk); (try clear hi)) | ((with_reducible refine gate_builtin (b := .append) (xs := #[.tmp 49, .tmp 51]) rfl ?_); (try (refine gate_guard (by rfl) ?_; dsimp only)); at_builtin; refine Kd.R_append Kd.string (w0 := w) w.heap.size rfl (.tmp 49) (.tmp 51) 24 9 (.string ⟨#[]⟩) 16 rfl Tryd.underlying24 info9 rfl (by decide) (by omega) (.slice Ao28 x6_2.length co28) x6_2 (strOfNums ((l0.take (x10_2 : Int).toNat).drop (x9_2 : Int).toNat)) [.string (strOfNums ((l0.take (x10_2 : Int).toNat).drop (x9_2 : Int).toNat))] (fun _ => True) (fun _ => False) rfl rfl ?aP (fun _ hk => hk.elim) ?aF ?aO ?aB ?aS ?aL ?_; (case aP => exact rfl); (case aB => exact bB); (case aF => exact (fun _ _ => trivial)); (case aO => exact (aRw HO_6)); (case aS => exact (below_size bB)); (case aL => have := LMc17.out; omega); intro v106 w30 ho hb hg hat; rw [← Ny105.out] at ho; replace HB := Aside0.mk hb; have HO107 := Aside0.mk ho; clear HO_6; clear ho hb hg hat; have p108 : 0 ≤ (x10_2 : Int) := oD; have q108 : x10_2 < (l0.length : Int) := oD; obtain ⟨ad108, e108, hx108_0⟩ := Kd.at_int HR0.out x10_2 p108 q108; cases e108; replace hx108_0 := (HB.out.cell (World.block_lt_of_cell? w _ hx108_0)).trans hx108_0; replace p108 := eq_true p108; replace q108 := eq_true q108))
                 (try simp only [Exit.then, Exit.inBlock, Lab.gotos])
                 go_ret3
                 exact ⟨_, by first | rfl | (simp [errW_none, errW_some] <;> rfl) | (simp [*, errW_none, errW_some] <;> rfl), aRw HO107, bB⟩
               ·rw [if_neg c19] at H
                exact absurd H (by simp)
              ·rw [if_neg c18] at H
               have c18b0 : decide (x10_2 < (l0.length : Int)) = false := decide_eq_false c18
               clear c18
               simp only [Option.some.injEq, Prod.mk.injEq] at H
               obtain ⟨rfl, rfl, rfl⟩ := H
               obtain ⟨i031, hi031, _, hsz31, _⟩ := info_parts info5
               obtain ⟨A31, hcut31, hA31, hC31⟩ := print_mid_of (P := Tryd.prog) (Value.int .u8) 0 22 5 .i64 .i64 Tryd.underlying22 hi031 hsz31 A0 c0 l0 x9_2 x10_2 oD (by first | omega | exact oD) oD HC0.out
               have HR103 := Aside0.mk (Kd.C_of_reads (h1 := fun _ => rfl) (hA31 _ (Kd.reads_of_C HR0.out)))
               have HC103 := Aside0.mk hC31
               clear hA31 hC31 hi031 hsz31
               have hcv32 := Kd.C_string (P := Tryd.prog) (A := A31) (c := (c0 - x9_2.toNat)) Tryd.underlying22 Tryd.underlying5 Tryd.underlying9 (Kd.C_below HR103.out HB.out)
               have hcv32_ := hcv32
               rw [show ((l0.take (x10_2 : Int).toNat).drop (x9_2 : Int).toNat).length = (x10_2.toNat - x9_2.toNat) from (by rw [List.length_drop, List.length_take]; have h_ : (x10_2 : Int) ≤ (l0.length : Int) := oD; omega)] at hcv32_
               obtain ⟨Ao33, co33, eo33⟩ := Kd.R_slice HO_6.out
               subst eo33
               go_wp2_with (first | ((with_reducible refine gate_callee (f := 48) rfl ?_); refine goesL_ (some 45) rfl rfl Tryd.func48 (by kernel_rfl) rfl #[.string (strOfNums ((l0.take (x10_2 : Int).toNat).drop (x9_2 : Int).toNat)), .int .i64 (x6_2.length : Int), .bool a2] rfl bM ?_; (with_reducible refine (ident_check.calls kj6 (strOfNums ((l0.take (x10_2 : Int).toNat).drop (x9_2 : Int).toNat)) (x6_2.length : Int) a2 t104 _ A15.out).mono ?_); rintro e w34 ⟨rfl, hb⟩; refine ⟨_, rfl, ?_⟩; replace HO_6 := aR HO_6 hb; replace HB := aB HB hb; (try clear hb); (try clear hb2); (try clear hk); (try clear hi)) | ((with_reducible refine gate_builtin (b := .append) (xs := #[.tmp 49, .tmp 51]) rfl ?_); (try (refine gate_guard (by rfl) ?_; dsimp only)); at_builtin; refine Kd.R_append Kd.string (w0 := w) w.heap.size rfl (.tmp 49) (.tmp 51) 24 9 (.string ⟨#[]⟩) 16 rfl Tryd.underlying24 info9 rfl (by decide) (by omega) (.slice Ao33 x6_2.length co33) x6_2 (strOfNums ((l0.take (x10_2 : Int).toNat).drop (x9_2 : Int).toNat)) [.string (strOfNums ((l0.take (x10_2 : Int).toNat).drop (x9_2 : Int).toNat))] (fun _ => True) (fun _ => False) rfl rfl ?aP (fun _ hk => hk.elim) ?aF ?aO ?aB ?aS ?aL ?_; (case aP => exact rfl); (case aB => exact bB); (case aF => exact (fun _ _ => trivial)); (case aO => exact (aRw HO_6)); (case aS => exact (below_size bB)); (case aL => have := LMc17.out; omega); intro v106 w35 ho hb hg hat; rw [← Ny105.out] at ho; replace HB := Aside0.mk hb; have HO107 := Aside0.mk ho; clear HO_6; clear ho hb hg hat))
               (try simp only [Exit.then, Exit.inBlock, Lab.gotos])
               go_ret3
               exact ⟨_, by first | rfl | (simp [errW_none, errW_some] <;> rfl) | (simp [*, errW_none, errW_some] <;> rfl), aRw HO107, bB⟩
             ·rw [if_neg c17] at H
              exact absurd H (by simp)
            ·rw [if_neg c16] at H
             have c16b0 : (t104 == 0) = false := beq_eq_false_iff_ne.mpr c16
             have c16b1 : (t104 != 0) = true := bne_iff_ne.mpr c16
             simp only [Option.some.injEq, Prod.mk.injEq] at H
             obtain ⟨rfl, rfl, rfl⟩ := H
             obtain ⟨i036, hi036, _, hsz36, _⟩ := info_parts info5
             obtain ⟨A36, hcut36, hA36, hC36⟩ := print_mid_of (P := Tryd.prog) (Value.int .u8) 0 22 5 .i64 .i64 Tryd.underlying22 hi036 hsz36 A0 c0 l0 x9_2 x10_2 oD (by first | omega | exact oD) oD HC0.out
             have HR103 := Aside0.mk (Kd.C_of_reads (h1 := fun _ => rfl) (hA36 _ (Kd.reads_of_C HR0.out)))
             have HC103 := Aside0.mk hC36
             clear hA36 hC36 hi036 hsz36
             have hcv37 := Kd.C_string (P := Tryd.prog) (A := A36) (c := (c0 - x9_2.toNat)) Tryd.underlying22 Tryd.underlying5 Tryd.underlying9 (Kd.C_below HR103.out HB.out)
             have hcv37_ := hcv37
             rw [show ((l0.take (x10_2 : Int).toNat).drop (x9_2 : Int).toNat).length = (x10_2.toNat - x9_2.toNat) from (by rw [List.length_drop, List.length_take]; have h_ : (x10_2 : Int) ≤ (l0.length : Int) := oD; omega)] at hcv37_
             obtain ⟨Ao38, co38, eo38⟩ := Kd.R_slice HO_6.out
             subst eo38
             go_wp2_with (first | ((with_reducible refine gate_callee (f := 48) rfl ?_); refine goesL_ (some 45) rfl rfl Tryd.func48 (by kernel_rfl) rfl #[.string (strOfNums ((l0.take (x10_2 : Int).toNat).drop (x9_2 : Int).toNat)), .int .i64 (x6_2.length : Int), .bool a2] rfl bM ?_; (with_reducible refine (ident_check.calls kj6 (strOfNums ((l0.take (x10_2 : Int).toNat).drop (x9_2 : Int).toNat)) (x6_2.length : Int) a2 t104 _ A15.out).mono ?_); rintro e w39 ⟨rfl, hb⟩; refine ⟨_, rfl, ?_⟩; replace HO_6 := aR HO_6 hb; replace HB := aB HB hb; (try clear hb); (try clear hb2); (try clear hk); (try clear hi)))
             (try simp only [Exit.then, Exit.inBlock, Lab.gotos])
             go_ret3
             exact ⟨_, by first | rfl | (simp [errW_none, errW_some] <;> rfl) | (simp [*, errW_none, errW_some] <;> rfl), by first | exact Kd.R_nil _ _ _ _ _ | exact Kd.N_nil _ _ _ _ _ | exact Kd.V_nil _ _ _ _ _ | exact Kd.Q_nil _ _ _ _ _ | exact Kd.S_nil _ _ _ _ _, bB⟩
           ·rw [if_neg c14] at H
            exact absurd H (by simp)
          ·rw [if_neg c13] at H
           exact absurd H (by simp)
         ·rw [if_neg c12] at H
          exact absurd H (by simp)

end Go.Proofs.YtildmfegfkiknaaDoor.X
