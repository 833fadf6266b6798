-- Written by a program of this session (wip/xp), out of the translation. Not trusted: Lean checks it.
import Derived.Test.YtildmfegfkiknaaDoorX0
-- shrunk
namespace Go.Proofs.YtildmfegfkiknaaDoor.X
open Go.RowKit Go.Proofs.YtildmfegfkiknaaDoorW.PrintWords Go.Proofs.YtildmfegfkiknaaDoorW.PrintLast Go.Proofs.YtildmfegfkiknaaDoorW.PrintMore
attribute [local go_sem] Lab.str_gtr Lab.str_leq Lab.str_geq max2_int min2_int max_two min_two max_three min_three max_four min_four   -- for this text's walks alone
set_option linter.unusedVariables false
set_option linter.unusedSimpArgs false

/-! ### ferruleref01_Parse: function 61 -/
mutual
def ferruleref01_Parse.j0 : Nat → ByteArray → Int → Bool → Option (Int × Int × Int)
 | 0, _, _, _ => none
 | k + 1, x0, x1, x16 => if x16 = true then (some (0, 0, 1)) else (ferruleref01_Parse.l0 k x0 x1 x1)
def ferruleref01_Parse.j2 : Nat → ByteArray → Int → Int → Option (Int × Int × Int)
 | 0, _, _, _ => none
 | k + 1, x0, x1, x5 => if 0 ≤ x1 then (if x1 ≤ x5 then (if x5 ≤ (x0.size : Int) then ((some (x0.extract (x1 : Int).toNat (x5 : Int).toNat : ByteArray)).bind fun sx102 => (if sx102.toList = ([] : List UInt8) then (some (0, 0, 2)) else (if (sx102.size : Int) > 1 then (if 0 < (sx102.size : Int) then (ferruleref01_Parse.j3 k sx102 ((bt sx102 0) == 48)) else (none)) else (ferruleref01_Parse.j3 k sx102 false)))) else (none)) else (none)) else (none)
def ferruleref01_Parse.j3 : Nat → ByteArray → Bool → Option (Int × Int × Int)
 | 0, _, _ => none
 | k + 1, x6, x51 => if x51 = true then (some (0, 0, 3)) else (if (x6.size : Int) > 19 then (ferruleref01_Parse.j4 k x6 true) else (if (x6.size : Int) = 19 then (ferruleref01_Parse.j4 k x6 (Op.bytesLess ([57, 50, 50, 51, 51, 55, 50, 48, 51, 54, 56, 53, 52, 55, 55, 53, 56, 48, 55] : List UInt8) x6.toList)) else (ferruleref01_Parse.j4 k x6 false)))
def ferruleref01_Parse.j4 : Nat → ByteArray → Bool → Option (Int × Int × Int)
 | 0, _, _ => none
 | k + 1, x6, x64 => if x64 = true then (some (0, 0, 4)) else (ferruleref01_Parse.l1 k x6 0 0)
def ferruleref01_Parse.l1 : Nat → ByteArray → Int → Int → Option (Int × Int × Int)
 | 0, _, _, _ => none
 | k + 1, x6, x7, x8 => if x8 < (x6.size : Int) then (if 0 ≤ x8 then (ferruleref01_Parse.l1 k x6 (IntKind.u64.wrap ((IntKind.u64.wrap (10 * x7)) + (((bt x6 x8) - 48) % 256))) (wrap64 (x8 + 1))) else (none)) else (some (x7, (x6.size : Int), 0))
def ferruleref01_Parse.l0 : Nat → ByteArray → Int → Int → Option (Int × Int × Int)
 | 0, _, _, _ => none
 | k + 1, x0, x1, x5 => if x5 < (x0.size : Int) then (if 0 ≤ x5 then (if (bt x0 x5) ≥ 48 then (if (bt x0 x5) ≤ 57 then (ferruleref01_Parse.l0 k x0 x1 (wrap64 (x5 + 1))) else (ferruleref01_Parse.j2 k x0 x1 x5)) else (ferruleref01_Parse.j2 k x0 x1 x5)) else (none)) else (ferruleref01_Parse.j2 k x0 x1 x5)
end
def ferruleref01_Parse.f (k : Nat) (a0 : ByteArray) (a1 : Int) : Option (Int × Int × Int) := if a1 < 0 then (ferruleref01_Parse.j0 k a0 a1 true) else (ferruleref01_Parse.j0 k a0 a1 (decide (a1 > (a0.size : Int))))
theorem ferruleref01_Parse.mono_l : ∀ k, (∀ y0 y1 y2, LeO (ferruleref01_Parse.j0 k y0 y1 y2) (ferruleref01_Parse.j0 (k + 1) y0 y1 y2)) ∧ (∀ y0 y1 y2, LeO (ferruleref01_Parse.j2 k y0 y1 y2) (ferruleref01_Parse.j2 (k + 1) y0 y1 y2)) ∧ (∀ y0 y1, LeO (ferruleref01_Parse.j3 k y0 y1) (ferruleref01_Parse.j3 (k + 1) y0 y1)) ∧ (∀ y0 y1, LeO (ferruleref01_Parse.j4 k y0 y1) (ferruleref01_Parse.j4 (k + 1) y0 y1)) ∧ (∀ y0 y1 y2, LeO (ferruleref01_Parse.l1 k y0 y1 y2) (ferruleref01_Parse.l1 (k + 1) y0 y1 y2)) ∧ (∀ y0 y1 y2, LeO (ferruleref01_Parse.l0 k y0 y1 y2) (ferruleref01_Parse.l0 (k + 1) y0 y1 y2))
 | 0 => ⟨fun _ _ _ r h => by simp [ferruleref01_Parse.j0] at h, fun _ _ _ r h => by simp [ferruleref01_Parse.j2] at h, fun _ _ r h => by simp [ferruleref01_Parse.j3] at h, fun _ _ r h => by simp [ferruleref01_Parse.j4] at h, fun _ _ _ r h => by simp [ferruleref01_Parse.l1] at h, fun _ _ _ r h => by simp [ferruleref01_Parse.l0] at h⟩
 | k + 1 => by
  obtain ⟨ih0, ih1, ih2, ih3, ih4, ih5⟩ := ferruleref01_Parse.mono_l k
  refine ⟨?_, ?_, ?_, ?_, ?_, ?_⟩
  ·intro y0 y1 y2
   unfold ferruleref01_Parse.j0
   repeat' first
   | (with_reducible exact ih0 _ _ _)
   | (with_reducible exact ih1 _ _ _)
   | (with_reducible exact ih2 _ _)
   | (with_reducible exact ih3 _ _)
   | (with_reducible exact ih4 _ _ _)
   | (with_reducible exact ih5 _ _ _)
   | (with_reducible exact LeO.refl _)
   | (with_reducible exact LeO.none _)
   | (with_reducible refine LeO.ite ?_ ?_)
   | (with_reducible refine LeO.bind ?_ (fun _ => ?_))
   | exact ih0 _ _ _
   | exact ih1 _ _ _
   | exact ih2 _ _
   | exact ih3 _ _
   | exact ih4 _ _ _
   | exact ih5 _ _ _
   | exact LeO.none _
   | refine LeO.ite ?_ ?_
   | refine LeO.bind ?_ (fun _ => ?_)
  ·intro y0 y1 y2
   unfold ferruleref01_Parse.j2
   repeat' first
   | (with_reducible exact ih0 _ _ _)
   | (with_reducible exact ih1 _ _ _)
   | (with_reducible exact ih2 _ _)
   | (with_reducible exact ih3 _ _)
   | (with_reducible exact ih4 _ _ _)
   | (with_reducible exact ih5 _ _ _)
   | (with_reducible exact LeO.refl _)
   | (with_reducible exact LeO.none _)
   | (with_reducible refine LeO.ite ?_ ?_)
   | (with_reducible refine LeO.bind ?_ (fun _ => ?_))
   | exact ih0 _ _ _
   | exact ih1 _ _ _
   | exact ih2 _ _
   | exact ih3 _ _
   | exact ih4 _ _ _
   | exact ih5 _ _ _
   | exact LeO.none _
   | refine LeO.ite ?_ ?_
   | refine LeO.bind ?_ (fun _ => ?_)
  ·intro y0 y1
   unfold ferruleref01_Parse.j3
   repeat' first
   | (with_reducible exact ih0 _ _ _)
   | (with_reducible exact ih1 _ _ _)
   | (with_reducible exact ih2 _ _)
   | (with_reducible exact ih3 _ _)
   | (with_reducible exact ih4 _ _ _)
   | (with_reducible exact ih5 _ _ _)
   | (with_reducible exact LeO.refl _)
   | (with_reducible exact LeO.none _)
   | (with_reducible refine LeO.ite ?_ ?_)
   | (with_reducible refine LeO.bind ?_ (fun _ => ?_))
   | exact ih0 _ _ _
   | exact ih1 _ _ _
   | exact ih2 _ _
   | exact ih3 _ _
   | exact ih4 _ _ _
   | exact ih5 _ _ _
   | exact LeO.none _
   | refine LeO.ite ?_ ?_
   | refine LeO.bind ?_ (fun _ => ?_)
  ·intro y0 y1
   unfold ferruleref01_Parse.j4
   repeat' first
   | (with_reducible exact ih0 _ _ _)
   | (with_reducible exact ih1 _ _ _)
   | (with_reducible exact ih2 _ _)
   | (with_reducible exact ih3 _ _)
   | (with_reducible exact ih4 _ _ _)
   | (with_reducible exact ih5 _ _ _)
   | (with_reducible exact LeO.refl _)
   | (with_reducible exact LeO.none _)
   | (with_reducible refine LeO.ite ?_ ?_)
   | (with_reducible refine LeO.bind ?_ (fun _ => ?_))
   | exact ih0 _ _ _
   | exact ih1 _ _ _
   | exact ih2 _ _
   | exact ih3 _ _
   | exact ih4 _ _ _
   | exact ih5 _ _ _
   | exact LeO.none _
   | refine LeO.ite ?_ ?_
   | refine LeO.bind ?_ (fun _ => ?_)
  ·intro y0 y1 y2
   unfold ferruleref01_Parse.l1
   repeat' first
   | (with_reducible exact ih0 _ _ _)
   | (with_reducible exact ih1 _ _ _)
   | (with_reducible exact ih2 _ _)
   | (with_reducible exact ih3 _ _)
   | (with_reducible exact ih4 _ _ _)
   | (with_reducible exact ih5 _ _ _)
   | (with_reducible exact LeO.refl _)
   | (with_reducible exact LeO.none _)
   | (with_reducible refine LeO.ite ?_ ?_)
   | (with_reducible refine LeO.bind ?_ (fun _ => ?_))
   | exact ih0 _ _ _
   | exact ih1 _ _ _
   | exact ih2 _ _
   | exact ih3 _ _
   | exact ih4 _ _ _
   | exact ih5 _ _ _
   | exact LeO.none _
   | refine LeO.ite ?_ ?_
   | refine LeO.bind ?_ (fun _ => ?_)
  ·intro y0 y1 y2
   unfold ferruleref01_Parse.l0
   repeat' first
   | (with_reducible exact ih0 _ _ _)
   | (with_reducible exact ih1 _ _ _)
   | (with_reducible exact ih2 _ _)
   | (with_reducible exact ih3 _ _)
   | (with_reducible exact ih4 _ _ _)
   | (with_reducible exact ih5 _ _ _)
   | (with_reducible exact LeO.refl _)
   | (with_reducible exact LeO.none _)
   | (with_reducible refine LeO.ite ?_ ?_)
   | (with_reducible refine LeO.bind ?_ (fun _ => ?_))
   | exact ih0 _ _ _
   | exact ih1 _ _ _
   | exact ih2 _ _
   | exact ih3 _ _
   | exact ih4 _ _ _
   | exact ih5 _ _ _
   | exact LeO.none _
   | refine LeO.ite ?_ ?_
   | refine LeO.bind ?_ (fun _ => ?_)
theorem ferruleref01_Parse.mono : ∀ a0 a1 k, LeO (ferruleref01_Parse.f k a0 a1) (ferruleref01_Parse.f (k + 1) a0 a1) := by
 intro a0 a1 k
 obtain ⟨ih0, ih1, ih2, ih3, ih4, ih5⟩ := ferruleref01_Parse.mono_l k
 unfold ferruleref01_Parse.f
 repeat' first
   | (with_reducible exact ih0 _ _ _)
   | (with_reducible exact ih1 _ _ _)
   | (with_reducible exact ih2 _ _)
   | (with_reducible exact ih3 _ _)
   | (with_reducible exact ih4 _ _ _)
   | (with_reducible exact ih5 _ _ _)
   | (with_reducible exact LeO.refl _)
   | (with_reducible exact LeO.none _)
   | (with_reducible refine LeO.ite ?_ ?_)
   | (with_reducible refine LeO.bind ?_ (fun _ => ?_))
   | exact ih0 _ _ _
   | exact ih1 _ _ _
   | exact ih2 _ _
   | exact ih3 _ _
   | exact ih4 _ _ _
   | exact ih5 _ _ _
   | exact LeO.none _
   | refine LeO.ite ?_ ?_
   | refine LeO.bind ?_ (fun _ => ?_)
set_option maxHeartbeats 8000000 in
set_option maxRecDepth 100000 in
theorem ferruleref01_Parse.calls (k : Nat) (a0 : ByteArray) (a1 : Int) (r1 : Int) (r2 : Int) (r3 : Int) (w : World) (h : ferruleref01_Parse.f k a0 a1 = some (r1, r2, r3)) :
  Calls Tryd.prog 61 #[.string a0, .int .i64 a1] w fun e w' => e = .returned (.agg #[.int .u64 r1, .int .i64 r2, .int .i64 r3]) ∧ Below w.heap.size w w' := by
 have hu75 := Tryd.underlying75
 have HB := Aside0.mk (Below.refl w.heap.size w)
 have H : (if a1 < 0 then (ferruleref01_Parse.j0 k a0 a1 true) else (ferruleref01_Parse.j0 k a0 a1 (decide (a1 > (a0.size : Int))))) = some (r1, r2, r3) := h
 clear h
 have HC3 := Aside0.mk H
 clear H
 go_enter Tryd.func61, Tryd.ntmps61
 go_upto_region 1 with (first | ((with_reducible refine gate_dst (N := 4) rfl ?_); (try (refine gate_guard (by rfl) ?_; dsimp only)); refine box_event ?hg (N := 4) ?hd (cs := #[.int .u64 0, .int .i64 0, .int .i64 0]) (t := 75) ?hr ?_; (case hd => rfl); (case hg => rfl); (case hr => first | (go_simp; done) | (go_simp; rfl)); intro gb101 hg w4 hbox hb; have BK101 := Aside0.mk hbox; have GW101 := Aside0.mk ((by rw [hg]; exact (below_size bB) : w.heap.size ≤ gb101)); have GE101 := Aside0.mk ((by rw [hg]; exact (below_size bB) : w.heap.size ≤ gb101)); replace HB := aB HB hb; clear hb hbox hg))
 (try simp only [Act.put, List.setIfInBounds_toArray, List.set_cons_zero, List.set_cons_succ])
 go_cut [16] (fun v16 wc => ∃ (kq : Nat) (x16_2 : Bool), v16 = .bool x16_2 ∧ Aside0 (ferruleref01_Parse.j0 kq a0 a1 x16_2 = some (r1, r2, r3)) ∧ Aside0 (kq ≤ k) ∧ Aside0 (wc.heap[gb101]? = some (.cells #[.int .u64 0, .int .i64 0, .int .i64 0] 75 (0, 0))) ∧ Aside0 (Below w.heap.size w wc))
 case first =>
  have H := HC3.out
  clear HC3
  by_cases c5 : a1 < 0
  ·rw [if_pos c5] at H
   have c5b0 : decide (a1 < 0) = true := decide_eq_true c5
   clear c5
   (first | rw [c5b0] | (simp only [i64_w, i32_w]; rw [c5b0]) | skip)
   have H' := Aside0.mk H
   clear H
   go_wp2
   go_meet
   case rel => exact ⟨_, (true), bS, H', ⟨by first | omega | exact Nat.le_refl _⟩, ⟨aKw BK101⟩, ⟨bB⟩⟩
  ·rw [if_neg c5] at H
   have c5b0 : decide (a1 < 0) = false := decide_eq_false c5
   clear c5
   (first | rw [c5b0] | (simp only [i64_w, i32_w]; rw [c5b0]) | skip)
   have H' := Aside0.mk H
   clear H
   go_wp2
   go_meet
   case rel => exact ⟨_, (decide (a1 > (a0.size : Int))), bS, H', ⟨by first | omega | exact Nat.le_refl _⟩, ⟨aKw BK101⟩, ⟨bB⟩⟩
 case rest =>
  clear HC3
  try clear p2
  try clear c5
  try clear c5b0
  obtain ⟨kq, x16_2, rfl, HA, HJ2, BK101, HB⟩ := hcut
  cases kq with
  | zero => exact absurd HA.out (by simp [ferruleref01_Parse.j0])
  | succ kj2 =>
   have H := HA.out
   clear HA
   simp only [ferruleref01_Parse.j0] at H
   by_cases c6 : x16_2 = true
   ·subst c6
    have H1 : (some (0, 0, 1)) = some (r1, r2, r3) := by rw [if_pos rfl] at H; exact H
    clear H
    have H := H1
    clear H1
    simp only [Option.some.injEq, Prod.mk.injEq] at H
    obtain ⟨rfl, rfl, rfl⟩ := H
    have hcz7_0 : wc.cell? ⟨gb101, 0, none⟩ = some (.int .u64 0) := (blk_cell BK101.out 0).trans rfl
    have hcz7_1 : wc.cell? ⟨gb101, 1, none⟩ = some (.int .i64 0) := (blk_cell BK101.out 1).trans rfl
    have hcz7_2 : wc.cell? ⟨gb101, 2, none⟩ = some (.int .i64 0) := (blk_cell BK101.out 2).trans rfl
    have hfz7_0 := blk_frozen BK101.out 0
    have hfz7_1 := blk_frozen BK101.out 1
    have hfz7_2 := blk_frozen BK101.out 2
    go_wp2
    refine bodyPost_ret (results_cell_row rfl _ _ gb101 75 #[.int .u64 0, .int .i64 0, .int .i64 1] (0, 0) _ rfl (by (with_reducible repeat (first | refine blk_drewN ?_ _ | refine blk_drew ?_ | refine blk_alloc ?_ _)); refine blk_put (cs := #[.int .u64 0, .int .i64 0, .int .i64 0]) ?_ 2 _ rfl; (with_reducible repeat (first | refine blk_drewN ?_ _ | refine blk_drew ?_ | refine blk_alloc ?_ _)); refine blk_put (cs := #[.int .u64 0, .int .i64 0, .int .i64 0]) ?_ 1 _ rfl; (with_reducible repeat (first | refine blk_drewN ?_ _ | refine blk_drew ?_ | refine blk_alloc ?_ _)); refine blk_put (cs := #[.int .u64 0, .int .i64 0, .int .i64 0]) ?_ 0 _ rfl; (with_reducible repeat (first | refine blk_drewN ?_ _ | refine blk_drew ?_ | refine blk_alloc ?_ _)); exact BK101.out) Tryd.underlying75 rfl (by kernel_rfl)) rfl ?_
    exact ⟨by first | rfl | (simp [errW_none, errW_some] <;> rfl) | (simp [*, errW_none, errW_some] <;> rfl), bB⟩
   ·replace c6 := Bool.eq_false_iff.mpr c6
    subst c6
    have H1 : (ferruleref01_Parse.l0 kj2 a0 a1 a1) = some (r1, r2, r3) := by rw [if_neg (show ¬ (false = true) by decide)] at H; exact H
    clear H
    have H := H1
    clear H1
    have HC8 := Aside0.mk H
    clear H
    go_upto_block 0 with (fail)
    go_cut [5] (fun v5 wc => ∃ (kq : Nat) (x5_7 : Int), v5 = .int .i64 x5_7 ∧ Aside0 (ferruleref01_Parse.j2 kq a0 a1 x5_7 = some (r1, r2, r3)) ∧ Aside0 (kq ≤ kj2) ∧ Aside0 (wc.heap[gb101]? = some (.cells #[.int .u64 0, .int .i64 0, .int .i64 0] 75 (0, 0))) ∧ Aside0 (Below w.heap.size w wc))
    case first =>
     have H := HC8.out
     clear HC8
     have H' := Aside0.mk H
     clear H
     go_wp2
     go_loopg [5] kj2 (fun kq v5 w' => ∃ (x5_2 : Int), v5 = .int .i64 x5_2 ∧ Aside0 (ferruleref01_Parse.l0 kq a0 a1 x5_2 = some (r1, r2, r3)) ∧ Aside0 (kq ≤ kj2) ∧ Aside0 (w'.heap[gb101]? = some (.cells #[.int .u64 0, .int .i64 0, .int .i64 0] 75 (0, 0))) ∧ Aside0 (Below w.heap.size w w'))
     case atStart => exact ⟨(a1), bS, H', ⟨Nat.le_refl _⟩, ⟨aKw BK101⟩, ⟨bB⟩⟩
     case round =>
      clear H'
      try clear p2
      try clear c5
      try clear c5b0
      try clear c6
      try clear p6
      try clear hcz7_0
      try clear hcz7_1
      try clear hcz7_2
      try clear hfz7_0
      try clear hfz7_1
      try clear hfz7_2
      try clear p2
      obtain ⟨x5_2, rfl, HA, HK2, BK101, HB⟩ := hrel
      cases gk with
      | zero => exact absurd HA.out (by simp [ferruleref01_Parse.l0])
      | succ k2 =>
       have H := HA.out
       clear HA
       simp only [ferruleref01_Parse.l0] at H
       by_cases c9 : x5_2 < (a0.size : Int)
       ·rw [if_pos c9] at H
        have c9b0 : decide (x5_2 < (a0.size : Int)) = true := decide_eq_true c9
        clear c9
        (first | rw [c9b0] | (simp only [i64_w, i32_w]; rw [c9b0]) | skip)
        by_cases c10 : 0 ≤ x5_2
        ·rw [if_pos c10] at H
         have c10b0 : decide (0 ≤ x5_2) = true := decide_eq_true c10
         clear c10
         by_cases c12 : (bt a0 x5_2) ≥ 48
         ·rw [if_pos c12] at H
          have c12b0 : decide (48 ≤ (bt a0 x5_2)) = true := decide_eq_true c12
          clear c12
          by_cases c14 : (bt a0 x5_2) ≤ 57
          ·rw [if_pos c14] at H
           have c14b0 : decide ((bt a0 x5_2) ≤ 57) = true := decide_eq_true c14
           clear c14
           have H' := Aside0.mk H
           clear H
           have p11 : 0 ≤ (x5_2 : Int) := oD
           have q11 : x5_2 < (a0.size : Int) := oD
           have hx11 := bt_at a0 x5_2
           replace p11 := eq_true p11
           replace q11 := eq_true q11
           have p13 : 0 ≤ (x5_2 : Int) := oD
           have q13 : x5_2 < (a0.size : Int) := oD
           have hx13 := bt_at a0 x5_2
           replace p13 := eq_true p13
           replace q13 := eq_true q13
           go_wp2
           go_roundg k2
           case measure => have := HJ2.out; have := HK2.out; omega
           case rel => exact ⟨(wrap64 (x5_2 + 1)), bS, H', ⟨by have := HJ2.out; have := HK2.out; omega⟩, ⟨aKw BK101⟩, ⟨bB⟩⟩
          ·rw [if_neg c14] at H
           have c14b0 : decide ((bt a0 x5_2) ≤ 57) = false := decide_eq_false c14
           clear c14
           have H' := Aside0.mk H
           clear H
           have p11 : 0 ≤ (x5_2 : Int) := oD
           have q11 : x5_2 < (a0.size : Int) := oD
           have hx11 := bt_at a0 x5_2
           replace p11 := eq_true p11
           replace q11 := eq_true q11
           have p13 : 0 ≤ (x5_2 : Int) := oD
           have q13 : x5_2 < (a0.size : Int) := oD
           have hx13 := bt_at a0 x5_2
           replace p13 := eq_true p13
           replace q13 := eq_true q13
           go_wp2
           go_meet
           case rel => exact ⟨_, (x5_2), bS, H', ⟨by have := HJ2.out; have := HK2.out; first | omega | exact Nat.le_refl _⟩, ⟨aKw BK101⟩, ⟨bB⟩⟩
         ·rw [if_neg c12] at H
          have c12b0 : decide (48 ≤ (bt a0 x5_2)) = false := decide_eq_false c12
          clear c12
          have H' := Aside0.mk H
          clear H
          have p11 : 0 ≤ (x5_2 : Int) := oD
          have q11 : x5_2 < (a0.size : Int) := oD
          have hx11 := bt_at a0 x5_2
          replace p11 := eq_true p11
          replace q11 := eq_true q11
          go_wp2
          go_meet
          case rel => exact ⟨_, (x5_2), bS, H', ⟨by have := HJ2.out; have := HK2.out; first | omega | exact Nat.le_refl _⟩, ⟨aKw BK101⟩, ⟨bB⟩⟩
        ·rw [if_neg c10] at H
         exact absurd H (by simp)
       ·rw [if_neg c9] at H
        have c9b0 : decide (x5_2 < (a0.size : Int)) = false := decide_eq_false c9
        clear c9
        (first | rw [c9b0] | (simp only [i64_w, i32_w]; rw [c9b0]) | skip)
        have H' := Aside0.mk H
        clear H
        go_wp2
        go_meet
        case rel => exact ⟨_, (x5_2), bS, H', ⟨by have := HJ2.out; have := HK2.out; first | omega | exact Nat.le_refl _⟩, ⟨aKw BK101⟩, ⟨bB⟩⟩
    case rest =>
     clear HC8
     try clear c1
     try clear p1
     try clear q1
     try clear hx1
     try clear p2
     try clear c5
     try clear c5b0
     try clear c6
     try clear p6
     try clear c9
     try clear c9b0
     try clear c10
     try clear c10b0
     try clear p11
     try clear q11
     try clear hx11
     try clear c12
     try clear c12b0
     try clear p13
     try clear q13
     try clear hx13
     try clear c14
     try clear c14b0
     try clear hcz7_0
     try clear hcz7_1
     try clear hcz7_2
     try clear hfz7_0
     try clear hfz7_1
     try clear hfz7_2
     try clear p11
     try clear p13
     try clear p2
     try clear p6
     try clear q11
     try clear q13
     obtain ⟨kq, x5_7, rfl, HA, HJ7, BK101, HB⟩ := hcut
     cases kq with
     | zero => exact absurd HA.out (by simp [ferruleref01_Parse.j2])
     | succ kj7 =>
      have H := HA.out
      clear HA
      simp only [ferruleref01_Parse.j2] at H
      by_cases c15 : 0 ≤ a1
      ·rw [if_pos c15] at H
       have c15b0 := eq_true c15
       have c15b1 : decide (0 ≤ a1) = true := decide_eq_true c15
       clear c15
       by_cases c16 : a1 ≤ x5_7
       ·rw [if_pos c16] at H
        have c16b0 := eq_true c16
        have c16b1 : decide (a1 ≤ x5_7) = true := decide_eq_true c16
        clear c16
        by_cases c17 : x5_7 ≤ (a0.size : Int)
        ·rw [if_pos c17] at H
         have c17b0 := eq_true c17
         have c17b1 : decide (x5_7 ≤ (a0.size : Int)) = true := decide_eq_true c17
         clear c17
         obtain ⟨sx102, hsx102⟩ : ∃ y_ : ByteArray, (a0.extract (a1 : Int).toNat (x5_7 : Int).toNat) = y_ := ⟨_, rfl⟩
         replace H : (if sx102.toList = ([] : List UInt8) then (some (0, 0, 2)) else (if (sx102.size : Int) > 1 then (if 0 < (sx102.size : Int) then (ferruleref01_Parse.j3 kj7 sx102 ((bt sx102 0) == 48)) else (none)) else (ferruleref01_Parse.j3 kj7 sx102 false))) = some (r1, r2, r3) := by rw [← hsx102]; exact H
         by_cases c18 : sx102.toList = ([] : List UInt8)
         ·rw [if_pos c18] at H
          have c18b0 : (sx102.toList == ([] : List UInt8)) = true := beq_iff_eq.mpr c18
          have c18b1 : (sx102.toList != ([] : List UInt8)) = false := bne_eq_false_iff_eq.mpr c18
          clear c18
          simp only [Option.some.injEq, Prod.mk.injEq] at H
          obtain ⟨rfl, rfl, rfl⟩ := H
          have hcz19_0 : wc.cell? ⟨gb101, 0, none⟩ = some (.int .u64 0) := (blk_cell BK101.out 0).trans rfl
          have hcz19_1 : wc.cell? ⟨gb101, 1, none⟩ = some (.int .i64 0) := (blk_cell BK101.out 1).trans rfl
          have hcz19_2 : wc.cell? ⟨gb101, 2, none⟩ = some (.int .i64 0) := (blk_cell BK101.out 2).trans rfl
          have hfz19_0 := blk_frozen BK101.out 0
          have hfz19_1 := blk_frozen BK101.out 1
          have hfz19_2 := blk_frozen BK101.out 2
          go_wp2
          refine bodyPost_ret (results_cell_row rfl _ _ gb101 75 #[.int .u64 0, .int .i64 0, .int .i64 2] (0, 0) _ rfl (by (with_reducible repeat (first | refine blk_drewN ?_ _ | refine blk_drew ?_ | refine blk_alloc ?_ _)); refine blk_put (cs := #[.int .u64 0, .int .i64 0, .int .i64 0]) ?_ 2 _ rfl; (with_reducible repeat (first | refine blk_drewN ?_ _ | refine blk_drew ?_ | refine blk_alloc ?_ _)); refine blk_put (cs := #[.int .u64 0, .int .i64 0, .int .i64 0]) ?_ 1 _ rfl; (with_reducible repeat (first | refine blk_drewN ?_ _ | refine blk_drew ?_ | refine blk_alloc ?_ _)); refine blk_put (cs := #[.int .u64 0, .int .i64 0, .int .i64 0]) ?_ 0 _ rfl; (with_reducible repeat (first | refine blk_drewN ?_ _ | refine blk_drew ?_ | refine blk_alloc ?_ _)); exact BK101.out) Tryd.underlying75 rfl (by kernel_rfl)) rfl ?_
          exact ⟨by first | rfl | (simp [errW_none, errW_some] <;> rfl) | (simp [*, errW_none, errW_some] <;> rfl), bB⟩
         ·rw [if_neg c18] at H
          have c18b0 : (sx102.toList == ([] : List UInt8)) = false := beq_eq_false_iff_ne.mpr c18
          have c18b1 : (sx102.toList != ([] : List UInt8)) = true := bne_iff_ne.mpr c18
          have HC20 := Aside0.mk H
          clear H
          go_upto_region 9 with (fail)
          go_cut [51] (fun v51 wc => ∃ (kq : Nat) (x51_19 : Bool), v51 = .bool x51_19 ∧ Aside0 (ferruleref01_Parse.j3 kq sx102 x51_19 = some (r1, r2, r3)) ∧ Aside0 (kq ≤ kj7) ∧ Aside0 (wc.heap[gb101]? = some (.cells #[.int .u64 0, .int .i64 0, .int .i64 0] 75 (0, 0))) ∧ Aside0 (Below w.heap.size w wc))
          case first =>
           have H := HC20.out
           clear HC20
           by_cases c21 : (sx102.size : Int) > 1
           ·rw [if_pos c21] at H
            have c21b0 : decide (1 < (sx102.size : Int)) = true := decide_eq_true c21
            have c21b1 : decide (1 < sx102.size) = true := decide_eq_true (by omega)
            clear c21
            (first | rw [c21b0] | (simp only [i64_w, i32_w]; rw [c21b0]) | skip)
            by_cases c22 : 0 < (sx102.size : Int)
            ·rw [if_pos c22] at H
             have c22b0 : decide (0 < (sx102.size : Int)) = true := decide_eq_true c22
             have c22b1 : decide (0 < sx102.size) = true := decide_eq_true (by omega)
             clear c22
             have H' := Aside0.mk H
             clear H
             have p23 : 0 ≤ (0 : Int) := (by omega)
             have q23 : 0 < sx102.size := (by have : (0 : Int) < (sx102.size : Int) := oD; omega)
             have hx23 : ∀ h : 0 < sx102.size, ((sx102[0]'h).toNat : Int) = bt sx102 0 := bt_at sx102 0
             clear p23
             have qi23 : (0 < (sx102.size : Int)) = True := eq_true oD
             replace q23 := eq_true q23
             go_wp2
             go_meet
             case rel => exact ⟨_, (((bt sx102 0) == 48)), bS, H', ⟨by have := HJ2.out; have := HJ7.out; first | omega | exact Nat.le_refl _⟩, ⟨aKw BK101⟩, ⟨bB⟩⟩
            ·rw [if_neg c22] at H
             exact absurd H (by simp)
           ·rw [if_neg c21] at H
            have c21b0 : decide (1 < (sx102.size : Int)) = false := decide_eq_false c21
            have c21b1 : decide (1 < sx102.size) = false := decide_eq_false (by omega)
            clear c21
            (first | rw [c21b0] | (simp only [i64_w, i32_w]; rw [c21b0]) | skip)
            have H' := Aside0.mk H
            clear H
            go_wp2
            go_meet
            case rel => exact ⟨_, (false), bS, H', ⟨by have := HJ2.out; have := HJ7.out; first | omega | exact Nat.le_refl _⟩, ⟨aKw BK101⟩, ⟨bB⟩⟩
          case rest =>
           clear HC20
           try clear c1
           try clear p1
           try clear q1
           try clear hx1
           try clear c2
           try clear p2
           try clear q2
           try clear hx2
           try clear qi2
           try clear c5
           try clear c5b0
           try clear c6
           try clear p6
           try clear c9
           try clear c9b0
           try clear c10
           try clear c10b0
           try clear p11
           try clear q11
           try clear hx11
           try clear c12
           try clear c12b0
           try clear p13
           try clear q13
           try clear hx13
           try clear c14
           try clear c14b0
           try clear c15
           try clear c15b0
           try clear c15b1
           try clear c16
           try clear c16b0
           try clear c16b1
           try clear c17
           try clear c17b0
           try clear c17b1
           try clear c18
           try clear c18b0
           try clear c18b1
           try clear c21
           try clear c21b0
           try clear c21b1
           try clear c22
           try clear c22b0
           try clear c22b1
           try clear p23
           try clear q23
           try clear hx23
           try clear qi23
           try clear hcz19_0
           try clear hcz19_1
           try clear hcz19_2
           try clear hcz7_0
           try clear hcz7_1
           try clear hcz7_2
           try clear hfz19_0
           try clear hfz19_1
           try clear hfz19_2
           try clear hfz7_0
           try clear hfz7_1
           try clear hfz7_2
           try clear p1
           try clear p11
           try clear p13
           try clear p2
           try clear p23
           try clear p6
           try clear q1
           try clear q11
           try clear q13
           try clear q23
           obtain ⟨kq, x51_19, rfl, HA, HJ19, BK101, HB⟩ := hcut
           cases kq with
           | zero => exact absurd HA.out (by simp [ferruleref01_Parse.j3])
           | succ kj19 =>
            have H := HA.out
            clear HA
            simp only [ferruleref01_Parse.j3] at H
            by_cases c24 : x51_19 = true
            ·subst c24
             have H1 : (some (0, 0, 3)) = some (r1, r2, r3) := by rw [if_pos rfl] at H; exact H
             clear H
             have H := H1
             clear H1
             simp only [Option.some.injEq, Prod.mk.injEq] at H
             obtain ⟨rfl, rfl, rfl⟩ := H
             have hcz25_0 : wc.cell? ⟨gb101, 0, none⟩ = some (.int .u64 0) := (blk_cell BK101.out 0).trans rfl
             have hcz25_1 : wc.cell? ⟨gb101, 1, none⟩ = some (.int .i64 0) := (blk_cell BK101.out 1).trans rfl
             have hcz25_2 : wc.cell? ⟨gb101, 2, none⟩ = some (.int .i64 0) := (blk_cell BK101.out 2).trans rfl
             have hfz25_0 := blk_frozen BK101.out 0
             have hfz25_1 := blk_frozen BK101.out 1
             have hfz25_2 := blk_frozen BK101.out 2
             go_wp2
             refine bodyPost_ret (results_cell_row rfl _ _ gb101 75 #[.int .u64 0, .int .i64 0, .int .i64 3] (0, 0) _ rfl (by (with_reducible repeat (first | refine blk_drewN ?_ _ | refine blk_drew ?_ | refine blk_alloc ?_ _)); refine blk_put (cs := #[.int .u64 0, .int .i64 0, .int .i64 0]) ?_ 2 _ rfl; (with_reducible repeat (first | refine blk_drewN ?_ _ | refine blk_drew ?_ | refine blk_alloc ?_ _)); refine blk_put (cs := #[.int .u64 0, .int .i64 0, .int .i64 0]) ?_ 1 _ rfl; (with_reducible repeat (first | refine blk_drewN ?_ _ | refine blk_drew ?_ | refine blk_alloc ?_ _)); refine blk_put (cs := #[.int .u64 0, .int .i64 0, .int .i64 0]) ?_ 0 _ rfl; (with_reducible repeat (first | refine blk_drewN ?_ _ | refine blk_drew ?_ | refine blk_alloc ?_ _)); exact BK101.out) Tryd.underlying75 rfl (by kernel_rfl)) rfl ?_
             exact ⟨by first | rfl | (simp [errW_none, errW_some] <;> rfl) | (simp [*, errW_none, errW_some] <;> rfl), bB⟩
            ·replace c24 := Bool.eq_false_iff.mpr c24
             subst c24
             have H1 : (if (sx102.size : Int) > 19 then (ferruleref01_Parse.j4 kj19 sx102 true) else (if (sx102.size : Int) = 19 then (ferruleref01_Parse.j4 kj19 sx102 (Op.bytesLess ([57, 50, 50, 51, 51, 55, 50, 48, 51, 54, 56, 53, 52, 55, 55, 53, 56, 48, 55] : List UInt8) sx102.toList)) else (ferruleref01_Parse.j4 kj19 sx102 false))) = some (r1, r2, r3) := by rw [if_neg (show ¬ (false = true) by decide)] at H; exact H
             clear H
             have H := H1
             clear H1
             have HC26 := Aside0.mk H
             clear H
             go_upto_region 11 with (fail)
             go_cut [64] (fun v64 wc => ∃ (kq : Nat) (x64_25 : Bool), v64 = .bool x64_25 ∧ Aside0 (ferruleref01_Parse.j4 kq sx102 x64_25 = some (r1, r2, r3)) ∧ Aside0 (kq ≤ kj19) ∧ Aside0 (wc.heap[gb101]? = some (.cells #[.int .u64 0, .int .i64 0, .int .i64 0] 75 (0, 0))) ∧ Aside0 (Below w.heap.size w wc))
             case first =>
              have H := HC26.out
              clear HC26
              by_cases c27 : (sx102.size : Int) > 19
              ·rw [if_pos c27] at H
               have c27b0 : decide (19 < (sx102.size : Int)) = true := decide_eq_true c27
               have c27b1 : decide (19 < sx102.size) = true := decide_eq_true (by omega)
               clear c27
               (first | rw [c27b0] | (simp only [i64_w, i32_w]; rw [c27b0]) | skip)
               have H' := Aside0.mk H
               clear H
               go_wp2
               go_meet
               case rel => exact ⟨_, (true), bS, H', ⟨by have := HJ2.out; have := HJ7.out; have := HJ19.out; first | omega | exact Nat.le_refl _⟩, ⟨aKw BK101⟩, ⟨bB⟩⟩
              ·rw [if_neg c27] at H
               have c27b0 : decide (19 < (sx102.size : Int)) = false := decide_eq_false c27
               have c27b1 : decide (19 < sx102.size) = false := decide_eq_false (by omega)
               clear c27
               (first | rw [c27b0] | (simp only [i64_w, i32_w]; rw [c27b0]) | skip)
               by_cases c28 : (sx102.size : Int) = 19
               ·rw [if_pos c28] at H
                have c28b0 : ((sx102.size : Int) == 19) = true := beq_iff_eq.mpr c28
                have c28b1 : ((sx102.size : Int) != 19) = false := bne_eq_false_iff_eq.mpr c28
                clear c28
                have H' := Aside0.mk H
                clear H
                go_wp2
                go_meet
                case rel => exact ⟨_, ((Op.bytesLess ([57, 50, 50, 51, 51, 55, 50, 48, 51, 54, 56, 53, 52, 55, 55, 53, 56, 48, 55] : List UInt8) sx102.toList)), bS, H', ⟨by have := HJ2.out; have := HJ7.out; have := HJ19.out; first | omega | exact Nat.le_refl _⟩, ⟨aKw BK101⟩, ⟨bB⟩⟩
               ·rw [if_neg c28] at H
                have c28b0 : ((sx102.size : Int) == 19) = false := beq_eq_false_iff_ne.mpr c28
                have c28b1 : ((sx102.size : Int) != 19) = true := bne_iff_ne.mpr c28
                have H' := Aside0.mk H
                clear H
                go_wp2
                go_meet
                case rel => exact ⟨_, (false), bS, H', ⟨by have := HJ2.out; have := HJ7.out; have := HJ19.out; first | omega | exact Nat.le_refl _⟩, ⟨aKw BK101⟩, ⟨bB⟩⟩
             case rest =>
              clear HC26
              try clear c1
              try clear p1
              try clear q1
              try clear hx1
              try clear c2
              try clear p2
              try clear q2
              try clear hx2
              try clear qi2
              try clear c5
              try clear c5b0
              try clear c6
              try clear p6
              try clear c9
              try clear c9b0
              try clear c10
              try clear c10b0
              try clear p11
              try clear q11
              try clear hx11
              try clear c12
              try clear c12b0
              try clear p13
              try clear q13
              try clear hx13
              try clear c14
              try clear c14b0
              try clear c15
              try clear c15b0
              try clear c15b1
              try clear c16
              try clear c16b0
              try clear c16b1
              try clear c17
              try clear c17b0
              try clear c17b1
              try clear c18
              try clear c18b0
              try clear c18b1
              try clear c21
              try clear c21b0
              try clear c21b1
              try clear c22
              try clear c22b0
              try clear c22b1
              try clear p23
              try clear q23
              try clear hx23
              try clear qi23
              try clear c24
              try clear c27
              try clear c27b0
              try clear c27b1
              try clear c28
              try clear c28b0
              try clear c28b1
              try clear hcz19_0
              try clear hcz19_1
              try clear hcz19_2
              try clear hcz25_0
              try clear hcz25_1
              try clear hcz25_2
              try clear hcz7_0
              try clear hcz7_1
              try clear hcz7_2
              try clear hfz19_0
              try clear hfz19_1
              try clear hfz19_2
              try clear hfz25_0
              try clear hfz25_1
              try clear hfz25_2
              try clear hfz7_0
              try clear hfz7_1
              try clear hfz7_2
              try clear p1
              try clear p11
              try clear p13
              try clear p2
              try clear p23
              try clear p6
              try clear q1
              try clear q11
              try clear q13
              try clear q2
              try clear q23
              obtain ⟨kq, x64_25, rfl, HA, HJ25, BK101, HB⟩ := hcut
              cases kq with
              | zero => exact absurd HA.out (by simp [ferruleref01_Parse.j4])
              | succ kj25 =>
               have H := HA.out
               clear HA
               simp only [ferruleref01_Parse.j4] at H
               by_cases c29 : x64_25 = true
               ·subst c29
                have H1 : (some (0, 0, 4)) = some (r1, r2, r3) := by rw [if_pos rfl] at H; exact H
                clear H
                have H := H1
                clear H1
                simp only [Option.some.injEq, Prod.mk.injEq] at H
                obtain ⟨rfl, rfl, rfl⟩ := H
                have hcz30_0 : wc.cell? ⟨gb101, 0, none⟩ = some (.int .u64 0) := (blk_cell BK101.out 0).trans rfl
                have hcz30_1 : wc.cell? ⟨gb101, 1, none⟩ = some (.int .i64 0) := (blk_cell BK101.out 1).trans rfl
                have hcz30_2 : wc.cell? ⟨gb101, 2, none⟩ = some (.int .i64 0) := (blk_cell BK101.out 2).trans rfl
                have hfz30_0 := blk_frozen BK101.out 0
                have hfz30_1 := blk_frozen BK101.out 1
                have hfz30_2 := blk_frozen BK101.out 2
                go_wp2
                refine bodyPost_ret (results_cell_row rfl _ _ gb101 75 #[.int .u64 0, .int .i64 0, .int .i64 4] (0, 0) _ rfl (by (with_reducible repeat (first | refine blk_drewN ?_ _ | refine blk_drew ?_ | refine blk_alloc ?_ _)); refine blk_put (cs := #[.int .u64 0, .int .i64 0, .int .i64 0]) ?_ 2 _ rfl; (with_reducible repeat (first | refine blk_drewN ?_ _ | refine blk_drew ?_ | refine blk_alloc ?_ _)); refine blk_put (cs := #[.int .u64 0, .int .i64 0, .int .i64 0]) ?_ 1 _ rfl; (with_reducible repeat (first | refine blk_drewN ?_ _ | refine blk_drew ?_ | refine blk_alloc ?_ _)); refine blk_put (cs := #[.int .u64 0, .int .i64 0, .int .i64 0]) ?_ 0 _ rfl; (with_reducible repeat (first | refine blk_drewN ?_ _ | refine blk_drew ?_ | refine blk_alloc ?_ _)); exact BK101.out) Tryd.underlying75 rfl (by kernel_rfl)) rfl ?_
                exact ⟨by first | rfl | (simp [errW_none, errW_some] <;> rfl) | (simp [*, errW_none, errW_some] <;> rfl), bB⟩
               ·replace c29 := Bool.eq_false_iff.mpr c29
                subst c29
                have H1 : (ferruleref01_Parse.l1 kj25 sx102 0 0) = some (r1, r2, r3) := by rw [if_neg (show ¬ (false = true) by decide)] at H; exact H
                clear H
                have H := H1
                clear H1
                have H' := Aside0.mk H
                clear H
                go_wp2
                go_loopg [7, 8] kj25 (fun kq v7 v8 w' => ∃ (x7_5 : Int) (x8_5 : Int), v7 = .int .u64 x7_5 ∧ v8 = .int .i64 x8_5 ∧ Aside0 (ferruleref01_Parse.l1 kq sx102 x7_5 x8_5 = some (r1, r2, r3)) ∧ Aside0 (kq ≤ kj25) ∧ Aside0 (w'.heap[gb101]? = some (.cells #[.int .u64 0, .int .i64 0, .int .i64 0] 75 (0, 0))) ∧ Aside0 (Below w.heap.size w w'))
                case atStart => exact ⟨(0), (0), bS, bS, H', ⟨Nat.le_refl _⟩, ⟨aKw BK101⟩, ⟨bB⟩⟩
                case round =>
                 clear H'
                 try clear c1
                 try clear p1
                 try clear q1
                 try clear hx1
                 try clear c2
                 try clear p2
                 try clear q2
                 try clear hx2
                 try clear qi2
                 try clear c5
                 try clear c5b0
                 try clear c6
                 try clear p6
                 try clear c9
                 try clear c9b0
                 try clear c10
                 try clear c10b0
                 try clear p11
                 try clear q11
                 try clear hx11
                 try clear c12
                 try clear c12b0
                 try clear p13
                 try clear q13
                 try clear hx13
                 try clear c14
                 try clear c14b0
                 try clear c15
                 try clear c15b0
                 try clear c15b1
                 try clear c16
                 try clear c16b0
                 try clear c16b1
                 try clear c17
                 try clear c17b0
                 try clear c17b1
                 try clear c18
                 try clear c18b0
                 try clear c18b1
                 try clear c21
                 try clear c21b0
                 try clear c21b1
                 try clear c22
                 try clear c22b0
                 try clear c22b1
                 try clear p23
                 try clear q23
                 try clear hx23
                 try clear qi23
                 try clear c24
                 try clear c27
                 try clear c27b0
                 try clear c27b1
                 try clear c28
                 try clear c28b0
                 try clear c28b1
                 try clear c29
                 try clear hcz19_0
                 try clear hcz19_1
                 try clear hcz19_2
                 try clear hcz25_0
                 try clear hcz25_1
                 try clear hcz25_2
                 try clear hcz30_0
                 try clear hcz30_1
                 try clear hcz30_2
                 try clear hcz7_0
                 try clear hcz7_1
                 try clear hcz7_2
                 try clear hfz19_0
                 try clear hfz19_1
                 try clear hfz19_2
                 try clear hfz25_0
                 try clear hfz25_1
                 try clear hfz25_2
                 try clear hfz30_0
                 try clear hfz30_1
                 try clear hfz30_2
                 try clear hfz7_0
                 try clear hfz7_1
                 try clear hfz7_2
                 try clear p1
                 try clear p11
                 try clear p13
                 try clear p2
                 try clear p23
                 try clear p6
                 try clear q1
                 try clear q11
                 try clear q13
                 try clear q2
                 try clear q23
                 obtain ⟨x7_5, x8_5, rfl, rfl, HA, HK5, BK101, HB⟩ := hrel
                 cases gk with
                 | zero => exact absurd HA.out (by simp [ferruleref01_Parse.l1])
                 | succ k5 =>
                  have H := HA.out
                  clear HA
                  simp only [ferruleref01_Parse.l1] at H
                  by_cases c31 : x8_5 < (sx102.size : Int)
                  ·rw [if_pos c31] at H
                   have c31b0 : decide (x8_5 < (sx102.size : Int)) = true := decide_eq_true c31
                   clear c31
                   by_cases c32 : 0 ≤ x8_5
                   ·rw [if_pos c32] at H
                    have c32b0 : decide (0 ≤ x8_5) = true := decide_eq_true c32
                    clear c32
                    have H' := Aside0.mk H
                    clear H
                    have p33 : 0 ≤ (x8_5 : Int) := oD
                    have q33 : x8_5 < (sx102.size : Int) := oD
                    have hx33 := bt_at sx102 x8_5
                    replace p33 := eq_true p33
                    replace q33 := eq_true q33
                    go_wp2
                    go_roundg k5
                    case measure => have := HJ2.out; have := HJ7.out; have := HJ19.out; have := HJ25.out; have := HK5.out; omega
                    case rel => exact ⟨(IntKind.u64.wrap ((IntKind.u64.wrap (10 * x7_5)) + (((bt sx102 x8_5) - 48) % 256))), (wrap64 (x8_5 + 1)), bS, bS, H', ⟨by have := HJ2.out; have := HJ7.out; have := HJ19.out; have := HJ25.out; have := HK5.out; omega⟩, ⟨aKw BK101⟩, ⟨bB⟩⟩
                   ·rw [if_neg c32] at H
                    exact absurd H (by simp)
                  ·rw [if_neg c31] at H
                   have c31b0 : decide (x8_5 < (sx102.size : Int)) = false := decide_eq_false c31
                   clear c31
                   simp only [Option.some.injEq, Prod.mk.injEq] at H
                   obtain ⟨rfl, rfl, rfl⟩ := H
                   have hcz34_0 : wr.cell? ⟨gb101, 0, none⟩ = some (.int .u64 0) := (blk_cell BK101.out 0).trans rfl
                   have hcz34_1 : wr.cell? ⟨gb101, 1, none⟩ = some (.int .i64 0) := (blk_cell BK101.out 1).trans rfl
                   have hcz34_2 : wr.cell? ⟨gb101, 2, none⟩ = some (.int .i64 0) := (blk_cell BK101.out 2).trans rfl
                   have hfz34_0 := blk_frozen BK101.out 0
                   have hfz34_1 := blk_frozen BK101.out 1
                   have hfz34_2 := blk_frozen BK101.out 2
                   go_wp2
                   refine bodyPost_ret (results_cell_row rfl _ _ gb101 75 #[.int .u64 x7_5, .int .i64 (sx102.size : Int), .int .i64 0] (0, 0) _ rfl (by (with_reducible repeat (first | refine blk_drewN ?_ _ | refine blk_drew ?_ | refine blk_alloc ?_ _)); refine blk_put (cs := #[.int .u64 x7_5, .int .i64 (sx102.size : Int), .int .i64 0]) ?_ 2 _ rfl; (with_reducible repeat (first | refine blk_drewN ?_ _ | refine blk_drew ?_ | refine blk_alloc ?_ _)); refine blk_put (cs := #[.int .u64 x7_5, .int .i64 0, .int .i64 0]) ?_ 1 _ rfl; (with_reducible repeat (first | refine blk_drewN ?_ _ | refine blk_drew ?_ | refine blk_alloc ?_ _)); refine blk_put (cs := #[.int .u64 0, .int .i64 0, .int .i64 0]) ?_ 0 _ rfl; (with_reducible repeat (first | refine blk_drewN ?_ _ | refine blk_drew ?_ | refine blk_alloc ?_ _)); exact BK101.out) Tryd.underlying75 rfl (by kernel_rfl)) rfl ?_
                   exact ⟨by first | rfl | (simp [errW_none, errW_some] <;> rfl) | (simp [*, errW_none, errW_some] <;> rfl), bB⟩
        ·rw [if_neg c17] at H
         exact absurd H (by simp)
       ·rw [if_neg c16] at H
        exact absurd H (by simp)
      ·rw [if_neg c15] at H
       exact absurd H (by simp)

end Go.Proofs.YtildmfegfkiknaaDoor.X
