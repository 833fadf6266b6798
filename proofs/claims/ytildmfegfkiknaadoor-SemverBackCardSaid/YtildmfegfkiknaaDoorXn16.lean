-- Written by a program of this session (wip/xp), out of the translation. Not trusted: Lean checks it.
import Derived.Test.YtildmfegfkiknaaDoorX0
import Derived.Test.YtildmfegfkiknaaDoorXm
-- shrunk
namespace Go.Proofs.YtildmfegfkiknaaDoor.X
open Go.RowKit Go.Proofs.YtildmfegfkiknaaDoorW.PrintWords Go.Proofs.YtildmfegfkiknaaDoorW.PrintLast Go.Proofs.YtildmfegfkiknaaDoorW.PrintMore
attribute [local go_sem] Lab.str_gtr Lab.str_leq Lab.str_geq max2_int min2_int max_two min_two max_three min_three max_four min_four   -- for this text's walks alone
set_option linter.unusedVariables false
set_option linter.unusedSimpArgs false

/-! ### ferruleref02_Row: function 16 -/
mutual
def ferruleref02_Row.j0 : Nat → ByteArray → Int → Bool → Bool → Option (List ByteArray × Int × Int)
 | 0, _, _, _, _ => none
 | k + 1, x0, x1, x2, x19 => if x19 = true then (some (([] : List ByteArray), 0, 1)) else (ferruleref02_Row.l0 k x0 x1 x2 x1)
def ferruleref02_Row.j2 : Nat → ByteArray → Int → Bool → Int → Option (List ByteArray × Int × Int)
 | 0, _, _, _, _ => none
 | k + 1, x0, x1, x2, x7 => ferruleref02_Row.l1 k x0 x1 x2 x7 ([] : List ByteArray) (⟨#[]⟩ : ByteArray) x1
def ferruleref02_Row.l1 : Nat → ByteArray → Int → Bool → Int → List ByteArray → ByteArray → Int → Option (List ByteArray × Int × Int)
 | 0, _, _, _, _, _, _, _ => none
 | k + 1, x0, x1, x2, x7, x8, x9, x10 => if x10 ≤ x7 then (if x10 < x7 then (if 0 ≤ x10 then (if x10 < (x0.size : Int) then (ferruleref02_Row.j4 k x0 x1 x2 x7 x8 x9 x10 ((bt x0 x10) != 46)) else (none)) else (none)) else (ferruleref02_Row.j4 k x0 x1 x2 x7 x8 x9 x10 false)) else (some (x8, wrap64 (x7 - x1), 0))
def ferruleref02_Row.j4 : Nat → ByteArray → Int → Bool → Int → List ByteArray → ByteArray → Int → Bool → Option (List ByteArray × Int × Int)
 | 0, _, _, _, _, _, _, _, _ => none
 | k + 1, x0, x1, x2, x7, x8, x9, x10, x54 => if x54 = true then (if 0 ≤ x10 then (if x10 ≤ (wrap64 (x10 + 1)) then (if (wrap64 (x10 + 1)) ≤ (x0.size : Int) then ((some (x0.extract (x10 : Int).toNat ((wrap64 (x10 + 1)) : Int).toNat : ByteArray)).bind fun sx103 => (if x9.size + sx103.size ≤ 9223372036854775807 then (ferruleref02_Row.l1 k x0 x1 x2 x7 x8 (x9 ++ sx103) (wrap64 (x10 + 1))) else (none))) else (none)) else (none)) else (none)) else ((ferruleref02_wrong.f k x9 (x8.length : Int) x2).bind fun t104 => (if t104 = 0 then (if x8.length < 8796093022208 then (ferruleref02_Row.l1 k x0 x1 x2 x7 (x8 ++ [x9]) (⟨#[]⟩ : ByteArray) (wrap64 (x10 + 1))) else (none)) else (some (([] : List ByteArray), 0, t104))))
def ferruleref02_Row.l0 : Nat → ByteArray → Int → Bool → Int → Option (List ByteArray × Int × Int)
 | 0, _, _, _, _ => none
 | k + 1, x0, x1, x2, x7 => if x7 < (x0.size : Int) then (if 0 ≤ x7 then ((ferruleref02_Byte.f (bt x0 x7)).bind fun t102 => (if t102 = true then (ferruleref02_Row.l0 k x0 x1 x2 (wrap64 (x7 + 1))) else (if (bt x0 x7) = 46 then (ferruleref02_Row.l0 k x0 x1 x2 (wrap64 (x7 + 1))) else (ferruleref02_Row.j2 k x0 x1 x2 x7)))) else (none)) else (ferruleref02_Row.j2 k x0 x1 x2 x7)
end
def ferruleref02_Row.f (k : Nat) (a0 : ByteArray) (a1 : Int) (a2 : Bool) : Option (List ByteArray × Int × Int) := if a1 < 0 then (ferruleref02_Row.j0 k a0 a1 a2 true) else (ferruleref02_Row.j0 k a0 a1 a2 (decide (a1 > (a0.size : Int))))
theorem ferruleref02_Row.mono_l : ∀ k, (∀ y0 y1 y2 y3, LeO (ferruleref02_Row.j0 k y0 y1 y2 y3) (ferruleref02_Row.j0 (k + 1) y0 y1 y2 y3)) ∧ (∀ y0 y1 y2 y3, LeO (ferruleref02_Row.j2 k y0 y1 y2 y3) (ferruleref02_Row.j2 (k + 1) y0 y1 y2 y3)) ∧ (∀ y0 y1 y2 y3 y4 y5 y6, LeO (ferruleref02_Row.l1 k y0 y1 y2 y3 y4 y5 y6) (ferruleref02_Row.l1 (k + 1) y0 y1 y2 y3 y4 y5 y6)) ∧ (∀ y0 y1 y2 y3 y4 y5 y6 y7, LeO (ferruleref02_Row.j4 k y0 y1 y2 y3 y4 y5 y6 y7) (ferruleref02_Row.j4 (k + 1) y0 y1 y2 y3 y4 y5 y6 y7)) ∧ (∀ y0 y1 y2 y3, LeO (ferruleref02_Row.l0 k y0 y1 y2 y3) (ferruleref02_Row.l0 (k + 1) y0 y1 y2 y3))
 | 0 => ⟨fun _ _ _ _ r h => by simp [ferruleref02_Row.j0] at h, fun _ _ _ _ r h => by simp [ferruleref02_Row.j2] at h, fun _ _ _ _ _ _ _ r h => by simp [ferruleref02_Row.l1] at h, fun _ _ _ _ _ _ _ _ r h => by simp [ferruleref02_Row.j4] at h, fun _ _ _ _ r h => by simp [ferruleref02_Row.l0] at h⟩
 | k + 1 => by
  obtain ⟨ih0, ih1, ih2, ih3, ih4⟩ := ferruleref02_Row.mono_l k
  refine ⟨?_, ?_, ?_, ?_, ?_⟩
  ·intro y0 y1 y2 y3
   unfold ferruleref02_Row.j0
   repeat' first
   | (with_reducible exact ih0 _ _ _ _)
   | (with_reducible exact ih1 _ _ _ _)
   | (with_reducible exact ih2 _ _ _ _ _ _ _)
   | (with_reducible exact ih3 _ _ _ _ _ _ _ _)
   | (with_reducible exact ih4 _ _ _ _)
   | (with_reducible exact ferruleref02_wrong.mono _ _ _ _)
   | (with_reducible exact LeO.refl _)
   | (with_reducible exact LeO.none _)
   | (with_reducible refine LeO.ite ?_ ?_)
   | (with_reducible refine LeO.bind ?_ (fun _ => ?_))
   | exact ih0 _ _ _ _
   | exact ih1 _ _ _ _
   | exact ih2 _ _ _ _ _ _ _
   | exact ih3 _ _ _ _ _ _ _ _
   | exact ih4 _ _ _ _
   | exact ferruleref02_wrong.mono _ _ _ _
   | exact LeO.none _
   | refine LeO.ite ?_ ?_
   | refine LeO.bind ?_ (fun _ => ?_)
  ·intro y0 y1 y2 y3
   unfold ferruleref02_Row.j2
   repeat' first
   | (with_reducible exact ih0 _ _ _ _)
   | (with_reducible exact ih1 _ _ _ _)
   | (with_reducible exact ih2 _ _ _ _ _ _ _)
   | (with_reducible exact ih3 _ _ _ _ _ _ _ _)
   | (with_reducible exact ih4 _ _ _ _)
   | (with_reducible exact ferruleref02_wrong.mono _ _ _ _)
   | (with_reducible exact LeO.refl _)
   | (with_reducible exact LeO.none _)
   | (with_reducible refine LeO.ite ?_ ?_)
   | (with_reducible refine LeO.bind ?_ (fun _ => ?_))
   | exact ih0 _ _ _ _
   | exact ih1 _ _ _ _
   | exact ih2 _ _ _ _ _ _ _
   | exact ih3 _ _ _ _ _ _ _ _
   | exact ih4 _ _ _ _
   | exact ferruleref02_wrong.mono _ _ _ _
   | exact LeO.none _
   | refine LeO.ite ?_ ?_
   | refine LeO.bind ?_ (fun _ => ?_)
  ·intro y0 y1 y2 y3 y4 y5 y6
   unfold ferruleref02_Row.l1
   repeat' first
   | (with_reducible exact ih0 _ _ _ _)
   | (with_reducible exact ih1 _ _ _ _)
   | (with_reducible exact ih2 _ _ _ _ _ _ _)
   | (with_reducible exact ih3 _ _ _ _ _ _ _ _)
   | (with_reducible exact ih4 _ _ _ _)
   | (with_reducible exact ferruleref02_wrong.mono _ _ _ _)
   | (with_reducible exact LeO.refl _)
   | (with_reducible exact LeO.none _)
   | (with_reducible refine LeO.ite ?_ ?_)
   | (with_reducible refine LeO.bind ?_ (fun _ => ?_))
   | exact ih0 _ _ _ _
   | exact ih1 _ _ _ _
   | exact ih2 _ _ _ _ _ _ _
   | exact ih3 _ _ _ _ _ _ _ _
   | exact ih4 _ _ _ _
   | exact ferruleref02_wrong.mono _ _ _ _
   | exact LeO.none _
   | refine LeO.ite ?_ ?_
   | refine LeO.bind ?_ (fun _ => ?_)
  ·intro y0 y1 y2 y3 y4 y5 y6 y7
   unfold ferruleref02_Row.j4
   repeat' first
   | (with_reducible exact ih0 _ _ _ _)
   | (with_reducible exact ih1 _ _ _ _)
   | (with_reducible exact ih2 _ _ _ _ _ _ _)
   | (with_reducible exact ih3 _ _ _ _ _ _ _ _)
   | (with_reducible exact ih4 _ _ _ _)
   | (with_reducible exact ferruleref02_wrong.mono _ _ _ _)
   | (with_reducible exact LeO.refl _)
   | (with_reducible exact LeO.none _)
   | (with_reducible refine LeO.ite ?_ ?_)
   | (with_reducible refine LeO.bind ?_ (fun _ => ?_))
   | exact ih0 _ _ _ _
   | exact ih1 _ _ _ _
   | exact ih2 _ _ _ _ _ _ _
   | exact ih3 _ _ _ _ _ _ _ _
   | exact ih4 _ _ _ _
   | exact ferruleref02_wrong.mono _ _ _ _
   | exact LeO.none _
   | refine LeO.ite ?_ ?_
   | refine LeO.bind ?_ (fun _ => ?_)
  ·intro y0 y1 y2 y3
   unfold ferruleref02_Row.l0
   repeat' first
   | (with_reducible exact ih0 _ _ _ _)
   | (with_reducible exact ih1 _ _ _ _)
   | (with_reducible exact ih2 _ _ _ _ _ _ _)
   | (with_reducible exact ih3 _ _ _ _ _ _ _ _)
   | (with_reducible exact ih4 _ _ _ _)
   | (with_reducible exact ferruleref02_wrong.mono _ _ _ _)
   | (with_reducible exact LeO.refl _)
   | (with_reducible exact LeO.none _)
   | (with_reducible refine LeO.ite ?_ ?_)
   | (with_reducible refine LeO.bind ?_ (fun _ => ?_))
   | exact ih0 _ _ _ _
   | exact ih1 _ _ _ _
   | exact ih2 _ _ _ _ _ _ _
   | exact ih3 _ _ _ _ _ _ _ _
   | exact ih4 _ _ _ _
   | exact ferruleref02_wrong.mono _ _ _ _
   | exact LeO.none _
   | refine LeO.ite ?_ ?_
   | refine LeO.bind ?_ (fun _ => ?_)
theorem ferruleref02_Row.mono : ∀ a0 a1 a2 k, LeO (ferruleref02_Row.f k a0 a1 a2) (ferruleref02_Row.f (k + 1) a0 a1 a2) := by
 intro a0 a1 a2 k
 obtain ⟨ih0, ih1, ih2, ih3, ih4⟩ := ferruleref02_Row.mono_l k
 unfold ferruleref02_Row.f
 repeat' first
   | (with_reducible exact ih0 _ _ _ _)
   | (with_reducible exact ih1 _ _ _ _)
   | (with_reducible exact ih2 _ _ _ _ _ _ _)
   | (with_reducible exact ih3 _ _ _ _ _ _ _ _)
   | (with_reducible exact ih4 _ _ _ _)
   | (with_reducible exact ferruleref02_wrong.mono _ _ _ _)
   | (with_reducible exact LeO.refl _)
   | (with_reducible exact LeO.none _)
   | (with_reducible refine LeO.ite ?_ ?_)
   | (with_reducible refine LeO.bind ?_ (fun _ => ?_))
   | exact ih0 _ _ _ _
   | exact ih1 _ _ _ _
   | exact ih2 _ _ _ _ _ _ _
   | exact ih3 _ _ _ _ _ _ _ _
   | exact ih4 _ _ _ _
   | exact ferruleref02_wrong.mono _ _ _ _
   | exact LeO.none _
   | refine LeO.ite ?_ ?_
   | refine LeO.bind ?_ (fun _ => ?_)
set_option maxHeartbeats 8000000 in
set_option maxRecDepth 100000 in
theorem ferruleref02_Row.calls (k : Nat) (a0 : ByteArray) (a1 : Int) (a2 : Bool) (r1 : List ByteArray) (r2 : Int) (r3 : Int) (w : World) (h : ferruleref02_Row.f k a0 a1 a2 = some (r1, r2, r3)) :
  Calls Tryd.prog 16 #[.string a0, .int .i64 a1, .bool a2] w fun e w' => ∃ v0_ : Value, e = .returned (.agg #[v0_, .int .i64 r2, .int .i64 r3]) ∧ Kd.R Kd.string 9 w' w.heap.size (fun _ => True) v0_ r1 ∧ Below w.heap.size w w' := by
 have hu29 := Tryd.underlying29
 have HB := Aside0.mk (Below.refl w.heap.size w)
 have H : (if a1 < 0 then (ferruleref02_Row.j0 k a0 a1 a2 true) else (ferruleref02_Row.j0 k a0 a1 a2 (decide (a1 > (a0.size : Int))))) = some (r1, r2, r3) := h
 clear h
 have HC4 := Aside0.mk H
 clear H
 go_enter Tryd.func16, Tryd.ntmps16
 go_upto_region 1 with (first | ((with_reducible refine gate_dst (N := 6) rfl ?_); (try (refine gate_guard (by rfl) ?_; dsimp only)); refine box_event ?hg (N := 6) ?hd (cs := #[.slice none 0 0, .int .i64 0, .int .i64 0]) (t := 29) ?hr ?_; (case hd => rfl); (case hg => rfl); (case hr => first | (go_simp; done) | (go_simp; rfl)); intro gb101 hg w5 hbox hb; have BK101 := Aside0.mk hbox; have GW101 := Aside0.mk ((by rw [hg]; exact (below_size bB) : w.heap.size ≤ gb101)); have GE101 := Aside0.mk ((by rw [hg]; exact (below_size bB) : w.heap.size ≤ gb101)); replace HB := aB HB hb; clear hb hbox hg))
 (try simp only [Act.put, List.setIfInBounds_toArray, List.set_cons_zero, List.set_cons_succ])
 go_cut [19] (fun v19 wc => ∃ (kq : Nat) (x19_3 : Bool), v19 = .bool x19_3 ∧ Aside0 (ferruleref02_Row.j0 kq a0 a1 a2 x19_3 = some (r1, r2, r3)) ∧ Aside0 (kq ≤ k) ∧ Aside0 (wc.heap[gb101]? = some (.cells #[(.slice none 0 0), .int .i64 0, .int .i64 0] 29 (0, 0))) ∧ Aside0 (Below w.heap.size w wc))
 case first =>
  have H := HC4.out
  clear HC4
  by_cases c6 : a1 < 0
  ·rw [if_pos c6] at H
   have c6b0 : decide (a1 < 0) = true := decide_eq_true c6
   clear c6
   (first | rw [c6b0] | (simp only [i64_w, i32_w]; rw [c6b0]) | skip)
   have H' := Aside0.mk H
   clear H
   go_wp2
   go_meet
   case rel => exact ⟨_, (true), bS, H', ⟨by first | omega | exact Nat.le_refl _⟩, ⟨aKw BK101⟩, ⟨bB⟩⟩
  ·rw [if_neg c6] at H
   have c6b0 : decide (a1 < 0) = false := decide_eq_false c6
   clear c6
   (first | rw [c6b0] | (simp only [i64_w, i32_w]; rw [c6b0]) | skip)
   have H' := Aside0.mk H
   clear H
   go_wp2
   go_meet
   case rel => exact ⟨_, (decide (a1 > (a0.size : Int))), bS, H', ⟨by first | omega | exact Nat.le_refl _⟩, ⟨aKw BK101⟩, ⟨bB⟩⟩
 case rest =>
  clear HC4
  try clear c1
  try clear p2
  try clear c6
  try clear c6b0
  try clear p6
  obtain ⟨kq, x19_3, rfl, HA, HJ3, BK101, HB⟩ := hcut
  cases kq with
  | zero => exact absurd HA.out (by simp [ferruleref02_Row.j0])
  | succ kj3 =>
   have H := HA.out
   clear HA
   simp only [ferruleref02_Row.j0] at H
   by_cases c7 : x19_3 = true
   ·subst c7
    have H1 : (some (([] : List ByteArray), 0, 1)) = some (r1, r2, r3) := by rw [if_pos rfl] at H; exact H
    clear H
    have H := H1
    clear H1
    simp only [Option.some.injEq, Prod.mk.injEq] at H
    obtain ⟨rfl, rfl, rfl⟩ := H
    have hcz8_0 : wc.cell? ⟨gb101, 0, none⟩ = some (.slice none 0 0) := (blk_cell BK101.out 0).trans rfl
    have hcz8_1 : wc.cell? ⟨gb101, 1, none⟩ = some (.int .i64 0) := (blk_cell BK101.out 1).trans rfl
    have hcz8_2 : wc.cell? ⟨gb101, 2, none⟩ = some (.int .i64 0) := (blk_cell BK101.out 2).trans rfl
    have hfz8_0 := blk_frozen BK101.out 0
    have hfz8_1 := blk_frozen BK101.out 1
    have hfz8_2 := blk_frozen BK101.out 2
    go_wp2
    refine bodyPost_ret (results_cell_row rfl _ _ gb101 29 #[.slice none 0 0, .int .i64 0, .int .i64 1] (0, 0) _ rfl (by (with_reducible repeat (first | refine blk_drewN ?_ _ | refine blk_drew ?_ | refine blk_alloc ?_ _)); refine blk_put (cs := #[.slice none 0 0, .int .i64 0, .int .i64 0]) ?_ 2 _ rfl; (with_reducible repeat (first | refine blk_drewN ?_ _ | refine blk_drew ?_ | refine blk_alloc ?_ _)); refine blk_put (cs := #[.slice none 0 0, .int .i64 0, .int .i64 0]) ?_ 1 _ rfl; (with_reducible repeat (first | refine blk_drewN ?_ _ | refine blk_drew ?_ | refine blk_alloc ?_ _)); refine blk_put (cs := #[.slice none 0 0, .int .i64 0, .int .i64 0]) ?_ 0 _ rfl; (with_reducible repeat (first | refine blk_drewN ?_ _ | refine blk_drew ?_ | refine blk_alloc ?_ _)); exact BK101.out) Tryd.underlying29 rfl (by kernel_rfl)) rfl ?_
    exact ⟨_, by first | rfl | (simp [errW_none, errW_some] <;> rfl) | (simp [*, errW_none, errW_some] <;> rfl), by first | exact Kd.R_nil _ _ _ _ _ | exact Kd.N_nil _ _ _ _ _ | exact Kd.V_nil _ _ _ _ _ | exact Kd.Q_nil _ _ _ _ _ | exact Kd.S_nil _ _ _ _ _, bB⟩
   ·replace c7 := Bool.eq_false_iff.mpr c7
    subst c7
    have H1 : (ferruleref02_Row.l0 kj3 a0 a1 a2 a1) = some (r1, r2, r3) := by rw [if_neg (show ¬ (false = true) by decide)] at H; exact H
    clear H
    have H := H1
    clear H1
    have HC9 := Aside0.mk H
    clear H
    go_upto_block 0 with (fail)
    go_cut [7] (fun v7 wc => ∃ (kq : Nat) (x7_8 : Int), v7 = .int .i64 x7_8 ∧ Aside0 (ferruleref02_Row.j2 kq a0 a1 a2 x7_8 = some (r1, r2, r3)) ∧ Aside0 (kq ≤ kj3) ∧ Aside0 (wc.heap[gb101]? = some (.cells #[(.slice none 0 0), .int .i64 0, .int .i64 0] 29 (0, 0))) ∧ Aside0 (Below w.heap.size w wc))
    case first =>
     have H := HC9.out
     clear HC9
     have H' := Aside0.mk H
     clear H
     go_wp2
     go_loopg [7] kj3 (fun kq v7 w' => ∃ (x7_2 : Int), v7 = .int .i64 x7_2 ∧ Aside0 (ferruleref02_Row.l0 kq a0 a1 a2 x7_2 = some (r1, r2, r3)) ∧ Aside0 (kq ≤ kj3) ∧ Aside0 (w'.heap[gb101]? = some (.cells #[(.slice none 0 0), .int .i64 0, .int .i64 0] 29 (0, 0))) ∧ Aside0 (Below w.heap.size w w'))
     case atStart => exact ⟨(a1), bS, H', ⟨Nat.le_refl _⟩, ⟨aKw BK101⟩, ⟨bB⟩⟩
     case round =>
      clear H'
      try clear c1
      try clear p2
      try clear c6
      try clear c6b0
      try clear p6
      try clear c7
      try clear hcz8_0
      try clear hcz8_1
      try clear hcz8_2
      try clear hfz8_0
      try clear hfz8_1
      try clear hfz8_2
      try clear p2
      try clear p6
      obtain ⟨x7_2, rfl, HA, HK2, BK101, HB⟩ := hrel
      cases gk with
      | zero => exact absurd HA.out (by simp [ferruleref02_Row.l0])
      | succ k2 =>
       have H := HA.out
       clear HA
       simp only [ferruleref02_Row.l0] at H
       by_cases c10 : x7_2 < (a0.size : Int)
       ·rw [if_pos c10] at H
        have c10b0 : decide (x7_2 < (a0.size : Int)) = true := decide_eq_true c10
        clear c10
        (first | rw [c10b0] | (simp only [i64_w, i32_w]; rw [c10b0]) | skip)
        by_cases c11 : 0 ≤ x7_2
        ·rw [if_pos c11] at H
         have c11b0 : decide (0 ≤ x7_2) = true := decide_eq_true c11
         clear c11
         replace H := Option.bind_eq_some_iff.mp H
         obtain ⟨t102, A130, H⟩ := H
         replace H : (if t102 = true then (ferruleref02_Row.l0 k2 a0 a1 a2 (wrap64 (x7_2 + 1))) else (if (bt a0 x7_2) = 46 then (ferruleref02_Row.l0 k2 a0 a1 a2 (wrap64 (x7_2 + 1))) else (ferruleref02_Row.j2 k2 a0 a1 a2 x7_2))) = some (r1, r2, r3) := H
         have A13 := Aside0.mk A130
         clear A130
         by_cases c14 : t102 = true
         ·subst c14
          have H1 : (ferruleref02_Row.l0 k2 a0 a1 a2 (wrap64 (x7_2 + 1))) = some (r1, r2, r3) := by rw [if_pos rfl] at H; exact H
          clear H
          have H := H1
          clear H1
          have H' := Aside0.mk H
          clear H
          have p12 : 0 ≤ (x7_2 : Int) := oD
          have q12 : x7_2 < (a0.size : Int) := oD
          have hx12 := bt_at a0 x7_2
          replace p12 := eq_true p12
          replace q12 := eq_true q12
          go_wp2_with (first | (go_at_call 49; (with_reducible refine (ferruleref02_Byte.calls (bt a0 x7_2) true _ A13.out).mono ?_); rintro e w' ⟨rfl, ⟨nd, rfl⟩⟩))
          go_roundg k2
          case measure => have := HJ3.out; have := HK2.out; omega
          case rel => exact ⟨(wrap64 (x7_2 + 1)), bS, H', ⟨by have := HJ3.out; have := HK2.out; omega⟩, ⟨aKw BK101⟩, ⟨bB⟩⟩
         ·replace c14 := Bool.eq_false_iff.mpr c14
          subst c14
          have H1 : (if (bt a0 x7_2) = 46 then (ferruleref02_Row.l0 k2 a0 a1 a2 (wrap64 (x7_2 + 1))) else (ferruleref02_Row.j2 k2 a0 a1 a2 x7_2)) = some (r1, r2, r3) := by rw [if_neg (show ¬ (false = true) by decide)] at H; exact H
          clear H
          have H := H1
          clear H1
          by_cases c16 : (bt a0 x7_2) = 46
          ·rw [if_pos c16] at H
           have c16b0 : ((bt a0 x7_2) == 46) = true := beq_iff_eq.mpr c16
           have c16b1 : ((bt a0 x7_2) != 46) = false := bne_eq_false_iff_eq.mpr c16
           clear c16
           have H' := Aside0.mk H
           clear H
           have p12 : 0 ≤ (x7_2 : Int) := oD
           have q12 : x7_2 < (a0.size : Int) := oD
           have hx12 := bt_at a0 x7_2
           replace p12 := eq_true p12
           replace q12 := eq_true q12
           go_wp2_with (first | (go_at_call 49; (with_reducible refine (ferruleref02_Byte.calls (bt a0 x7_2) false _ A13.out).mono ?_); rintro e w' ⟨rfl, ⟨nd, rfl⟩⟩; have p15 : 0 ≤ (x7_2 : Int) := oD; have q15 : x7_2 < (a0.size : Int) := oD; have hx15 := bt_at a0 x7_2; replace p15 := eq_true p15; replace q15 := eq_true q15))
           go_roundg k2
           case measure => have := HJ3.out; have := HK2.out; omega
           case rel => exact ⟨(wrap64 (x7_2 + 1)), bS, H', ⟨by have := HJ3.out; have := HK2.out; omega⟩, ⟨aKw BK101⟩, ⟨bB⟩⟩
          ·rw [if_neg c16] at H
           have c16b0 : ((bt a0 x7_2) == 46) = false := beq_eq_false_iff_ne.mpr c16
           have c16b1 : ((bt a0 x7_2) != 46) = true := bne_iff_ne.mpr c16
           have H' := Aside0.mk H
           clear H
           have p12 : 0 ≤ (x7_2 : Int) := oD
           have q12 : x7_2 < (a0.size : Int) := oD
           have hx12 := bt_at a0 x7_2
           replace p12 := eq_true p12
           replace q12 := eq_true q12
           go_wp2_with (first | (go_at_call 49; (with_reducible refine (ferruleref02_Byte.calls (bt a0 x7_2) false _ A13.out).mono ?_); rintro e w' ⟨rfl, ⟨nd, rfl⟩⟩; have p15 : 0 ≤ (x7_2 : Int) := oD; have q15 : x7_2 < (a0.size : Int) := oD; have hx15 := bt_at a0 x7_2; replace p15 := eq_true p15; replace q15 := eq_true q15))
           go_meet
           case rel => exact ⟨_, (x7_2), bS, H', ⟨by have := HJ3.out; have := HK2.out; first | omega | exact Nat.le_refl _⟩, ⟨aKw BK101⟩, ⟨bB⟩⟩
        ·rw [if_neg c11] at H
         exact absurd H (by simp)
       ·rw [if_neg c10] at H
        have c10b0 : decide (x7_2 < (a0.size : Int)) = false := decide_eq_false c10
        clear c10
        (first | rw [c10b0] | (simp only [i64_w, i32_w]; rw [c10b0]) | skip)
        have H' := Aside0.mk H
        clear H
        go_wp2
        go_meet
        case rel => exact ⟨_, (x7_2), bS, H', ⟨by have := HJ3.out; have := HK2.out; first | omega | exact Nat.le_refl _⟩, ⟨aKw BK101⟩, ⟨bB⟩⟩
    case rest =>
     clear HC9
     try clear c1
     try clear p1
     try clear q1
     try clear hx1
     try clear p2
     try clear c6
     try clear c6b0
     try clear p6
     try clear c7
     try clear c10
     try clear c10b0
     try clear c11
     try clear c11b0
     try clear p12
     try clear q12
     try clear hx12
     try clear c14
     try clear p15
     try clear q15
     try clear hx15
     try clear c16
     try clear c16b0
     try clear c16b1
     try clear hcz8_0
     try clear hcz8_1
     try clear hcz8_2
     try clear hfz8_0
     try clear hfz8_1
     try clear hfz8_2
     try clear p12
     try clear p15
     try clear p2
     try clear p6
     try clear q12
     try clear q15
     obtain ⟨kq, x7_8, rfl, HA, HJ8, BK101, HB⟩ := hcut
     cases kq with
     | zero => exact absurd HA.out (by simp [ferruleref02_Row.j2])
     | succ kj8 =>
      have H := HA.out
      clear HA
      simp only [ferruleref02_Row.j2] at H
      have H' := Aside0.mk H
      clear H
      go_wp2
      go_loopg [8, 9, 10] kj8 (fun kq v8 v9 v10 w' => ∃ (x8_3 : List ByteArray) (x9_3 : ByteArray) (x10_3 : Int) (x102001_3 : Int) (x102002_3 : Int), v9 = .string x9_3 ∧ v10 = .int .i64 x10_3 ∧ Aside0 (ferruleref02_Row.l1 kq a0 a1 a2 x7_8 x8_3 x9_3 x10_3 = some (r1, r2, r3)) ∧ Aside0 (kq ≤ kj8) ∧ Aside0 (Kd.R Kd.string 9 w' w.heap.size (fun _ => True) v8 x8_3) ∧ Aside0 (w'.heap[gb101]? = some (.cells #[(.slice none 0 0), .int .i64 x102001_3, .int .i64 x102002_3] 29 (0, 0))) ∧ Aside0 (Below w.heap.size w w'))
      case atStart => exact ⟨(([] : List ByteArray)), ((⟨#[]⟩ : ByteArray)), (a1), (0), (0), bS, bS, H', ⟨Nat.le_refl _⟩, ⟨by first | exact Kd.R_nil _ _ _ _ _ | exact Kd.N_nil _ _ _ _ _ | exact Kd.V_nil _ _ _ _ _ | exact Kd.Q_nil _ _ _ _ _ | exact Kd.S_nil _ _ _ _ _⟩, ⟨aKw BK101⟩, ⟨bB⟩⟩
      case round =>
       clear H'
       try clear c1
       try clear p1
       try clear q1
       try clear hx1
       try clear p2
       try clear c6
       try clear c6b0
       try clear p6
       try clear c7
       try clear c10
       try clear c10b0
       try clear c11
       try clear c11b0
       try clear p12
       try clear q12
       try clear hx12
       try clear c14
       try clear p15
       try clear q15
       try clear hx15
       try clear c16
       try clear c16b0
       try clear c16b1
       try clear hcz8_0
       try clear hcz8_1
       try clear hcz8_2
       try clear hfz8_0
       try clear hfz8_1
       try clear hfz8_2
       try clear p1
       try clear p12
       try clear p15
       try clear p2
       try clear p6
       try clear q1
       try clear q12
       try clear q15
       obtain ⟨x8_3, x9_3, x10_3, x102001_3, x102002_3, rfl, rfl, HA, HK3, HO_8, BK101, HB⟩ := hrel
       cases gk with
       | zero => exact absurd HA.out (by simp [ferruleref02_Row.l1])
       | succ k3 =>
        have H := HA.out
        clear HA
        simp only [ferruleref02_Row.l1] at H
        by_cases c17 : x10_3 ≤ x7_8
        ·rw [if_pos c17] at H
         have c17b0 : decide (x10_3 ≤ x7_8) = true := decide_eq_true c17
         clear c17
         have HC18 := Aside0.mk H
         clear H
         go_upto_region 11 with (fail)
         go_cut [54] (fun v54 wc => ∃ (kq : Nat) (x54_17 : Bool), v54 = .bool x54_17 ∧ Aside0 (ferruleref02_Row.j4 kq a0 a1 a2 x7_8 x8_3 x9_3 x10_3 x54_17 = some (r1, r2, r3)) ∧ Aside0 (kq ≤ k3) ∧ Aside0 (Kd.R Kd.string 9 wc w.heap.size (fun _ => True) u8 x8_3) ∧ Aside0 (wc.heap[gb101]? = some (.cells #[(.slice none 0 0), .int .i64 x102001_3, .int .i64 x102002_3] 29 (0, 0))) ∧ Aside0 (Below w.heap.size w wc))
         case first =>
          have H := HC18.out
          clear HC18
          by_cases c19 : x10_3 < x7_8
          ·rw [if_pos c19] at H
           have c19b0 : decide (x10_3 < x7_8) = true := decide_eq_true c19
           clear c19
           (first | rw [c19b0] | (simp only [i64_w, i32_w]; rw [c19b0]) | skip)
           by_cases c20 : 0 ≤ x10_3
           ·rw [if_pos c20] at H
            have c20b0 : decide (0 ≤ x10_3) = true := decide_eq_true c20
            clear c20
            by_cases c21 : x10_3 < (a0.size : Int)
            ·rw [if_pos c21] at H
             have c21b0 : decide (x10_3 < (a0.size : Int)) = true := decide_eq_true c21
             clear c21
             have H' := Aside0.mk H
             clear H
             have p22 : 0 ≤ (x10_3 : Int) := oD
             have q22 : x10_3 < (a0.size : Int) := oD
             have hx22 := bt_at a0 x10_3
             replace p22 := eq_true p22
             replace q22 := eq_true q22
             go_wp2
             go_meet
             case rel => exact ⟨_, (((bt a0 x10_3) != 46)), bS, H', ⟨by have := HJ3.out; have := HJ8.out; have := HK3.out; first | omega | exact Nat.le_refl _⟩, ⟨aRw HO_8⟩, ⟨aKw BK101⟩, ⟨bB⟩⟩
            ·rw [if_neg c21] at H
             exact absurd H (by simp)
           ·rw [if_neg c20] at H
            exact absurd H (by simp)
          ·rw [if_neg c19] at H
           have c19b0 : decide (x10_3 < x7_8) = false := decide_eq_false c19
           clear c19
           (first | rw [c19b0] | (simp only [i64_w, i32_w]; rw [c19b0]) | skip)
           have H' := Aside0.mk H
           clear H
           go_wp2
           go_meet
           case rel => exact ⟨_, (false), bS, H', ⟨by have := HJ3.out; have := HJ8.out; have := HK3.out; first | omega | exact Nat.le_refl _⟩, ⟨aRw HO_8⟩, ⟨aKw BK101⟩, ⟨bB⟩⟩
         case rest =>
          clear HC18
          try clear c1
          try clear p1
          try clear q1
          try clear hx1
          try clear c2
          try clear p2
          try clear q2
          try clear hx2
          try clear c6
          try clear c6b0
          try clear p6
          try clear c7
          try clear c10
          try clear c10b0
          try clear c11
          try clear c11b0
          try clear p12
          try clear q12
          try clear hx12
          try clear c14
          try clear p15
          try clear q15
          try clear hx15
          try clear c16
          try clear c16b0
          try clear c16b1
          try clear c17
          try clear c17b0
          try clear c19
          try clear c19b0
          try clear c20
          try clear c20b0
          try clear c21
          try clear c21b0
          try clear p22
          try clear q22
          try clear hx22
          try clear hcz8_0
          try clear hcz8_1
          try clear hcz8_2
          try clear hfz8_0
          try clear hfz8_1
          try clear hfz8_2
          try clear p1
          try clear p12
          try clear p15
          try clear p2
          try clear p22
          try clear p6
          try clear q1
          try clear q12
          try clear q15
          try clear q22
          obtain ⟨kq, x54_17, rfl, HA, HJ17, HO_8, BK101, HB⟩ := hcut
          cases kq with
          | zero => exact absurd HA.out (by simp [ferruleref02_Row.j4])
          | succ kj17 =>
           have H := HA.out
           clear HA
           simp only [ferruleref02_Row.j4] at H
           by_cases c23 : x54_17 = true
           ·subst c23
            have H1 : (if 0 ≤ x10_3 then (if x10_3 ≤ (wrap64 (x10_3 + 1)) then (if (wrap64 (x10_3 + 1)) ≤ (a0.size : Int) then ((some (a0.extract (x10_3 : Int).toNat ((wrap64 (x10_3 + 1)) : Int).toNat : ByteArray)).bind fun sx103 => (if x9_3.size + sx103.size ≤ 9223372036854775807 then (ferruleref02_Row.l1 kj17 a0 a1 a2 x7_8 x8_3 (x9_3 ++ sx103) (wrap64 (x10_3 + 1))) else (none))) else (none)) else (none)) else (none)) = some (r1, r2, r3) := by rw [if_pos rfl] at H; exact H
            clear H
            have H := H1
            clear H1
            by_cases c24 : 0 ≤ x10_3
            ·rw [if_pos c24] at H
             have c24b0 := eq_true c24
             have c24b1 : decide (0 ≤ x10_3) = true := decide_eq_true c24
             clear c24
             by_cases c25 : x10_3 ≤ (wrap64 (x10_3 + 1))
             ·rw [if_pos c25] at H
              have c25b0 := eq_true c25
              have c25b1 : decide (x10_3 ≤ (wrap64 (x10_3 + 1))) = true := decide_eq_true c25
              by_cases c26 : (wrap64 (x10_3 + 1)) ≤ (a0.size : Int)
              ·rw [if_pos c26] at H
               have c26b0 := eq_true c26
               have c26b1 : decide ((wrap64 (x10_3 + 1)) ≤ (a0.size : Int)) = true := decide_eq_true c26
               obtain ⟨sx103, hsx103⟩ : ∃ y_ : ByteArray, (a0.extract (x10_3 : Int).toNat ((wrap64 (x10_3 + 1)) : Int).toNat) = y_ := ⟨_, rfl⟩
               replace H : (if x9_3.size + sx103.size ≤ 9223372036854775807 then (ferruleref02_Row.l1 kj17 a0 a1 a2 x7_8 x8_3 (x9_3 ++ sx103) (wrap64 (x10_3 + 1))) else (none)) = some (r1, r2, r3) := by rw [← hsx103]; exact H
               by_cases c27 : x9_3.size + sx103.size ≤ 9223372036854775807
               ·rw [if_pos c27] at H
                have c27b0 := eq_true c27
                have c27b1 : decide (x9_3.size + sx103.size ≤ 9223372036854775807) = true := decide_eq_true c27
                try have c27b2 : (9223372036854775807 < x9_3.size + sx103.size) = False := eq_false (Nat.not_lt.2 c27)
                have H' := Aside0.mk H
                clear H
                go_wp2
                go_roundg kj17
                case measure => have := HJ3.out; have := HJ8.out; have := HK3.out; have := HJ17.out; omega
                case rel => exact ⟨(x8_3), (x9_3 ++ sx103), (wrap64 (x10_3 + 1)), (x102001_3), (x102002_3), bS, bS, H', ⟨by have := HJ3.out; have := HJ8.out; have := HK3.out; have := HJ17.out; omega⟩, ⟨aRw HO_8⟩, ⟨aKw BK101⟩, ⟨bB⟩⟩
               ·rw [if_neg c27] at H
                exact absurd H (by simp)
              ·rw [if_neg c26] at H
               exact absurd H (by simp)
             ·rw [if_neg c25] at H
              exact absurd H (by simp)
            ·rw [if_neg c24] at H
             exact absurd H (by simp)
           ·replace c23 := Bool.eq_false_iff.mpr c23
            subst c23
            have H1 : ((ferruleref02_wrong.f kj17 x9_3 (x8_3.length : Int) a2).bind fun t104 => (if t104 = 0 then (if x8_3.length < 8796093022208 then (ferruleref02_Row.l1 kj17 a0 a1 a2 x7_8 (x8_3 ++ [x9_3]) (⟨#[]⟩ : ByteArray) (wrap64 (x10_3 + 1))) else (none)) else (some (([] : List ByteArray), 0, t104)))) = some (r1, r2, r3) := by rw [if_neg (show ¬ (false = true) by decide)] at H; exact H
            clear H
            have H := H1
            clear H1
            replace H := Option.bind_eq_some_iff.mp H
            obtain ⟨t104, A280, H⟩ := H
            replace H : (if t104 = 0 then (if x8_3.length < 8796093022208 then (ferruleref02_Row.l1 kj17 a0 a1 a2 x7_8 (x8_3 ++ [x9_3]) (⟨#[]⟩ : ByteArray) (wrap64 (x10_3 + 1))) else (none)) else (some (([] : List ByteArray), 0, t104))) = some (r1, r2, r3) := H
            have A28 := Aside0.mk A280
            clear A280
            by_cases c29 : t104 = 0
            ·rw [if_pos c29] at H
             have c29b0 : (t104 == 0) = true := beq_iff_eq.mpr c29
             have c29b1 : (t104 != 0) = false := bne_eq_false_iff_eq.mpr c29
             clear c29
             by_cases c30 : x8_3.length < 8796093022208
             ·rw [if_pos c30] at H
              have LMc30 := Aside0.mk c30
              clear c30
              obtain ⟨y105, hy105⟩ : ∃ y_ : List ByteArray, y_ = (x8_3 ++ [x9_3]) := ⟨_, rfl⟩
              replace H : (ferruleref02_Row.l1 kj17 a0 a1 a2 x7_8 y105 (⟨#[]⟩ : ByteArray) (wrap64 (x10_3 + 1))) = some (r1, r2, r3) := by first | (rw [hy105]; with_reducible exact H) | (have H2_ := (Option.bind_some _ _).symm.trans H; rw [hy105]; with_reducible exact H2_) | (have H2_ := (Option.bind_some _ _).symm.trans H; with_reducible exact H2_) | with_reducible exact H | (rw [hy105]; exact H) | exact H
              have Ny105 := Aside0.mk hy105
              clear hy105
              have H' := Aside0.mk H
              clear H
              obtain ⟨Ao31, co31, eo31⟩ := Kd.R_slice HO_8.out
              subst eo31
              go_wp2_with (first | ((with_reducible refine gate_callee (f := 50) rfl ?_); refine goesL_ (some 66) rfl rfl Tryd.func50 (by kernel_rfl) rfl #[.string x9_3, .int .i64 (x8_3.length : Int), .bool a2] rfl bM ?_; (with_reducible refine (ferruleref02_wrong.calls kj17 x9_3 (x8_3.length : Int) a2 t104 _ A28.out).mono ?_); rintro e w' ⟨rfl, ⟨nd, rfl⟩⟩; refine ⟨_, rfl, ?_⟩) | ((with_reducible refine gate_builtin (b := .append) (xs := #[.tmp 71, .tmp 73]) rfl ?_); (try (refine gate_guard (by rfl) ?_; dsimp only)); at_builtin; refine Kd.R_append Kd.string (w0 := w) w.heap.size rfl (.tmp 71) (.tmp 73) 24 9 (.string ⟨#[]⟩) 16 rfl Tryd.underlying24 info9 rfl (by decide) (by omega) (.slice Ao31 x8_3.length co31) x8_3 x9_3 [.string x9_3] (fun _ => True) (fun _ => False) rfl rfl ?aP (fun _ hk => hk.elim) ?aF ?aO ?aB ?aS ?aL ?_; (case aP => exact rfl); (case aB => exact bB); (case aF => exact (fun _ _ => trivial)); (case aO => exact (aRw HO_8)); (case aS => exact (below_size bB)); (case aL => have := LMc30.out; omega); intro v106 w32 ho hb hg hat; rw [← Ny105.out] at ho; replace BK101 := Aside0.mk (blk_grown (g := gb101) (o := .cells #[.slice none 0 0, .int .i64 x102001_3, .int .i64 x102002_3] 29 (0, 0)) (aKw BK101) hg (Kd.R_ne HO_8.out BK101.out (by decide))); replace HB := Aside0.mk hb; have HO107 := Aside0.mk ho; clear HO_8; clear ho hb hg hat))
              go_roundg kj17
              case measure => have := HJ3.out; have := HJ8.out; have := HK3.out; have := HJ17.out; omega
              case rel => exact ⟨(y105), ((⟨#[]⟩ : ByteArray)), (wrap64 (x10_3 + 1)), (x102001_3), (x102002_3), bS, bS, H', ⟨by have := HJ3.out; have := HJ8.out; have := HK3.out; have := HJ17.out; omega⟩, ⟨aRw HO107⟩, ⟨aKw BK101⟩, ⟨bB⟩⟩
             ·rw [if_neg c30] at H
              exact absurd H (by simp)
            ·rw [if_neg c29] at H
             have c29b0 : (t104 == 0) = false := beq_eq_false_iff_ne.mpr c29
             have c29b1 : (t104 != 0) = true := bne_iff_ne.mpr c29
             simp only [Option.some.injEq, Prod.mk.injEq] at H
             obtain ⟨rfl, rfl, rfl⟩ := H
             obtain ⟨Ao33, co33, eo33⟩ := Kd.R_slice HO_8.out
             subst eo33
             go_wp2_with (first | ((with_reducible refine gate_callee (f := 50) rfl ?_); refine goesL_ (some 66) rfl rfl Tryd.func50 (by kernel_rfl) rfl #[.string x9_3, .int .i64 (x8_3.length : Int), .bool a2] rfl bM ?_; (with_reducible refine (ferruleref02_wrong.calls kj17 x9_3 (x8_3.length : Int) a2 t104 _ A28.out).mono ?_); rintro e w' ⟨rfl, ⟨nd, rfl⟩⟩; refine ⟨_, rfl, ?_⟩; (try (rw [drewN_self wc]; generalize hq_ : World.drewN wc _ = wc; have n0_ : Aside0 (Kd.R Kd.string 9 wc w.heap.size (fun _ => True) (.slice Ao33 x8_3.length co33) x8_3) := ⟨by rw [← hq_]; exact (aRw HO_8)⟩; have n1_ : Aside0 (wc.heap[gb101]? = some (.cells #[.slice none 0 0, .int .i64 x102001_3, .int .i64 x102002_3] 29 (0, 0))) := ⟨by rw [← hq_]; exact (aKw BK101)⟩; have n2_ : Aside0 (Below w.heap.size w wc) := ⟨by rw [← hq_]; exact bB⟩; clear HO_8 BK101 HB hq_; have HO_8 := n0_; have BK101 := n1_; have HB := n2_; clear n0_ n1_ n2_)); have hcz34_0 : wc.cell? ⟨gb101, 0, none⟩ = some (.slice none 0 0) := (blk_cell BK101.out 0).trans rfl; have hcz34_1 : wc.cell? ⟨gb101, 1, none⟩ = some (.int .i64 x102001_3) := (blk_cell BK101.out 1).trans rfl; have hcz34_2 : wc.cell? ⟨gb101, 2, none⟩ = some (.int .i64 x102002_3) := (blk_cell BK101.out 2).trans rfl; have hfz34_0 := blk_frozen BK101.out 0; have hfz34_1 := blk_frozen BK101.out 1; have hfz34_2 := blk_frozen BK101.out 2))
             refine bodyPost_ret (results_cell_row rfl _ _ gb101 29 #[.slice none 0 0, .int .i64 0, .int .i64 t104] (0, 0) _ rfl (by (with_reducible repeat (first | refine blk_drewN ?_ _ | refine blk_drew ?_ | refine blk_alloc ?_ _)); refine blk_put (cs := #[.slice none 0 0, .int .i64 0, .int .i64 x102002_3]) ?_ 2 _ rfl; (with_reducible repeat (first | refine blk_drewN ?_ _ | refine blk_drew ?_ | refine blk_alloc ?_ _)); refine blk_put (cs := #[.slice none 0 0, .int .i64 x102001_3, .int .i64 x102002_3]) ?_ 1 _ rfl; (with_reducible repeat (first | refine blk_drewN ?_ _ | refine blk_drew ?_ | refine blk_alloc ?_ _)); refine blk_put (cs := #[.slice none 0 0, .int .i64 x102001_3, .int .i64 x102002_3]) ?_ 0 _ rfl; (with_reducible repeat (first | refine blk_drewN ?_ _ | refine blk_drew ?_ | refine blk_alloc ?_ _)); exact BK101.out) Tryd.underlying29 rfl (by kernel_rfl)) rfl ?_
             exact ⟨_, by first | rfl | (simp [errW_none, errW_some] <;> rfl) | (simp [*, errW_none, errW_some] <;> rfl), by first | exact Kd.R_nil _ _ _ _ _ | exact Kd.N_nil _ _ _ _ _ | exact Kd.V_nil _ _ _ _ _ | exact Kd.Q_nil _ _ _ _ _ | exact Kd.S_nil _ _ _ _ _, bB⟩
        ·rw [if_neg c17] at H
         have c17b0 : decide (x10_3 ≤ x7_8) = false := decide_eq_false c17
         clear c17
         simp only [Option.some.injEq, Prod.mk.injEq] at H
         obtain ⟨rfl, rfl, rfl⟩ := H
         obtain ⟨Ao35, co35, eo35⟩ := Kd.R_slice HO_8.out
         subst eo35
         have hcz36_0 : wr.cell? ⟨gb101, 0, none⟩ = some (.slice none 0 0) := (blk_cell BK101.out 0).trans rfl
         have hcz36_1 : wr.cell? ⟨gb101, 1, none⟩ = some (.int .i64 x102001_3) := (blk_cell BK101.out 1).trans rfl
         have hcz36_2 : wr.cell? ⟨gb101, 2, none⟩ = some (.int .i64 x102002_3) := (blk_cell BK101.out 2).trans rfl
         have hfz36_0 := blk_frozen BK101.out 0
         have hfz36_1 := blk_frozen BK101.out 1
         have hfz36_2 := blk_frozen BK101.out 2
         go_wp2
         refine bodyPost_ret (results_cell_row rfl _ _ gb101 29 #[.slice Ao35 x8_3.length co35, .int .i64 (wrap64 (x7_8 - a1)), .int .i64 0] (0, 0) _ rfl (by (with_reducible repeat (first | refine blk_drewN ?_ _ | refine blk_drew ?_ | refine blk_alloc ?_ _)); refine blk_put (cs := #[.slice Ao35 x8_3.length co35, .int .i64 (wrap64 (x7_8 - a1)), .int .i64 x102002_3]) ?_ 2 _ rfl; (with_reducible repeat (first | refine blk_drewN ?_ _ | refine blk_drew ?_ | refine blk_alloc ?_ _)); refine blk_put (cs := #[.slice Ao35 x8_3.length co35, .int .i64 x102001_3, .int .i64 x102002_3]) ?_ 1 _ rfl; (with_reducible repeat (first | refine blk_drewN ?_ _ | refine blk_drew ?_ | refine blk_alloc ?_ _)); refine blk_put (cs := #[.slice none 0 0, .int .i64 x102001_3, .int .i64 x102002_3]) ?_ 0 _ rfl; (with_reducible repeat (first | refine blk_drewN ?_ _ | refine blk_drew ?_ | refine blk_alloc ?_ _)); exact BK101.out) Tryd.underlying29 rfl (by kernel_rfl)) rfl ?_
         exact ⟨_, by first | rfl | (simp [errW_none, errW_some] <;> rfl) | (simp [*, errW_none, errW_some] <;> rfl), by (with_reducible repeat (first | apply Kd.R_alloc | apply Kd.R_drewN | apply Kd.R_drew)); exact Kd.R_mono (aG HO_8 BK101) (fun _ hk => trivial), bB⟩

end Go.Proofs.YtildmfegfkiknaaDoor.X
