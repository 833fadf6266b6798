-- Written by a program of this session (wip/xp), out of the translation. Not trusted: Lean checks it.
import Derived.Test.YtcebjhbphcoboaaC0
import Derived.Test.YtcebjhbphcoboaaCn44
import Derived.Test.YtcebjhbphcoboaaCn64
-- shrunk
namespace Go.Proofs.Ytcebjhbphcoboaa.C
open Go.RowKit Go.Proofs.YtcebjhbphcoboaaW.PrintWords Go.Proofs.YtcebjhbphcoboaaW.PrintLast Go.Proofs.YtcebjhbphcoboaaW.PrintMore
attribute [local go_sem] Lab.str_gtr Lab.str_leq Lab.str_geq max2_int min2_int max_two min_two max_three min_three max_four min_four   -- for this text's walks alone
set_option linter.unusedVariables false
set_option linter.unusedSimpArgs false

/-! ### ferruleref23_Good: function 29 -/
mutual
def ferruleref23_Good.j0 : Nat → Bool → List Int → List (S95) → Option (Bool)
 | 0, _, _, _ => none
 | k + 1, x17, x102000, x102001 => if x17 = true then (some false) else (ferruleref23_Good.l0 k 0 x102000 x102001)
def ferruleref23_Good.l0 : Nat → Int → List Int → List (S95) → Option (Bool)
 | 0, _, _, _ => none
 | k + 1, x3, x102000, x102001 => if x3 < (x102000.length : Int) then (if 0 ≤ x3 then (if (rd x102000 x3) < 0 then (some false) else (if (rd x102000 x3) > 1048575 then (some false) else (if x3 > 0 then (if 0 ≤ (wrap64 (x3 - 1)) then (if (wrap64 (x3 - 1)) < (x102000.length : Int) then (if (rd x102000 x3) ≤ (rd x102000 (wrap64 (x3 - 1))) then (some false) else (ferruleref23_Good.l0 k (wrap64 (x3 + 1)) x102000 x102001)) else (none)) else (none)) else (ferruleref23_Good.l0 k (wrap64 (x3 + 1)) x102000 x102001)))) else (none)) else (ferruleref23_Good.l1 k 0 x102000 x102001)
def ferruleref23_Good.l1 : Nat → Int → List Int → List (S95) → Option (Bool)
 | 0, _, _, _ => none
 | k + 1, x4, x102000, x102001 => if x4 < (x102001.length : Int) then (if 0 ≤ x4 then ((ferruleref12_Clean.f k ((rd_T95 x102001 x4).f1)).bind fun bt108 => (if ((rd_T95 x102001 x4).f0) < 0 then (some false) else (if ((rd_T95 x102001 x4).f0) > 2 then (some false) else (if (((rd_T95 x102001 x4).f1).length : Int) > 4096 then (some false) else (if bt108.2 = true then (some false) else ((ferruleref12_Same.f k bt108.1 ((rd_T95 x102001 x4).f1)).bind fun t112 => (if t112 = true then (ferruleref23_Good.l1 k (wrap64 (x4 + 1)) x102000 x102001) else (some false)))))))) else (none)) else (some true)
end
def ferruleref23_Good.f (k : Nat) (l0_0 : List Int) (l0_1 : List (S95)) : Option (Bool) := if (l0_0.length : Int) > 65536 then (ferruleref23_Good.j0 k true l0_0 l0_1) else (ferruleref23_Good.j0 k (decide ((l0_1.length : Int) > 1048576)) l0_0 l0_1)
theorem ferruleref23_Good.mono_l : ∀ k, (∀ y0 y1 y2, LeO (ferruleref23_Good.j0 k y0 y1 y2) (ferruleref23_Good.j0 (k + 1) y0 y1 y2)) ∧ (∀ y0 y1 y2, LeO (ferruleref23_Good.l0 k y0 y1 y2) (ferruleref23_Good.l0 (k + 1) y0 y1 y2)) ∧ (∀ y0 y1 y2, LeO (ferruleref23_Good.l1 k y0 y1 y2) (ferruleref23_Good.l1 (k + 1) y0 y1 y2))
 | 0 => ⟨fun _ _ _ r h => by simp [ferruleref23_Good.j0] at h, fun _ _ _ r h => by simp [ferruleref23_Good.l0] at h, fun _ _ _ r h => by simp [ferruleref23_Good.l1] at h⟩
 | k + 1 => by
  obtain ⟨ih0, ih1, ih2⟩ := ferruleref23_Good.mono_l k
  refine ⟨?_, ?_, ?_⟩
  ·intro y0 y1 y2
   unfold ferruleref23_Good.j0
   repeat' first
   | (with_reducible exact ih0 _ _ _)
   | (with_reducible exact ih1 _ _ _)
   | (with_reducible exact ih2 _ _ _)
   | (with_reducible exact ferruleref12_Clean.mono _ _)
   | (with_reducible exact ferruleref12_Same.mono _ _ _)
   | (with_reducible exact LeO.refl _)
   | (with_reducible exact LeO.none _)
   | (with_reducible refine LeO.ite ?_ ?_)
   | (with_reducible refine LeO.bind ?_ (fun _ => ?_))
   | exact ih0 _ _ _
   | exact ih1 _ _ _
   | exact ih2 _ _ _
   | exact ferruleref12_Clean.mono _ _
   | exact ferruleref12_Same.mono _ _ _
   | exact LeO.none _
   | refine LeO.ite ?_ ?_
   | refine LeO.bind ?_ (fun _ => ?_)
  ·intro y0 y1 y2
   unfold ferruleref23_Good.l0
   repeat' first
   | (with_reducible exact ih0 _ _ _)
   | (with_reducible exact ih1 _ _ _)
   | (with_reducible exact ih2 _ _ _)
   | (with_reducible exact ferruleref12_Clean.mono _ _)
   | (with_reducible exact ferruleref12_Same.mono _ _ _)
   | (with_reducible exact LeO.refl _)
   | (with_reducible exact LeO.none _)
   | (with_reducible refine LeO.ite ?_ ?_)
   | (with_reducible refine LeO.bind ?_ (fun _ => ?_))
   | exact ih0 _ _ _
   | exact ih1 _ _ _
   | exact ih2 _ _ _
   | exact ferruleref12_Clean.mono _ _
   | exact ferruleref12_Same.mono _ _ _
   | exact LeO.none _
   | refine LeO.ite ?_ ?_
   | refine LeO.bind ?_ (fun _ => ?_)
  ·intro y0 y1 y2
   unfold ferruleref23_Good.l1
   repeat' first
   | (with_reducible exact ih0 _ _ _)
   | (with_reducible exact ih1 _ _ _)
   | (with_reducible exact ih2 _ _ _)
   | (with_reducible exact ferruleref12_Clean.mono _ _)
   | (with_reducible exact ferruleref12_Same.mono _ _ _)
   | (with_reducible exact LeO.refl _)
   | (with_reducible exact LeO.none _)
   | (with_reducible refine LeO.ite ?_ ?_)
   | (with_reducible refine LeO.bind ?_ (fun _ => ?_))
   | exact ih0 _ _ _
   | exact ih1 _ _ _
   | exact ih2 _ _ _
   | exact ferruleref12_Clean.mono _ _
   | exact ferruleref12_Same.mono _ _ _
   | exact LeO.none _
   | refine LeO.ite ?_ ?_
   | refine LeO.bind ?_ (fun _ => ?_)
theorem ferruleref23_Good.mono : ∀ a0 a1 k, LeO (ferruleref23_Good.f k a0 a1) (ferruleref23_Good.f (k + 1) a0 a1) := by
 intro a0 a1 k
 obtain ⟨ih0, ih1, ih2⟩ := ferruleref23_Good.mono_l k
 unfold ferruleref23_Good.f
 repeat' first
   | (with_reducible exact ih0 _ _ _)
   | (with_reducible exact ih1 _ _ _)
   | (with_reducible exact ih2 _ _ _)
   | (with_reducible exact ferruleref12_Clean.mono _ _)
   | (with_reducible exact ferruleref12_Same.mono _ _ _)
   | (with_reducible exact LeO.refl _)
   | (with_reducible exact LeO.none _)
   | (with_reducible refine LeO.ite ?_ ?_)
   | (with_reducible refine LeO.bind ?_ (fun _ => ?_))
   | exact ih0 _ _ _
   | exact ih1 _ _ _
   | exact ih2 _ _ _
   | exact ferruleref12_Clean.mono _ _
   | exact ferruleref12_Same.mono _ _ _
   | exact LeO.none _
   | refine LeO.ite ?_ ?_
   | refine LeO.bind ?_ (fun _ => ?_)
set_option maxHeartbeats 8000000 in
set_option maxRecDepth 100000 in
theorem ferruleref23_Good.calls (k : Nat) (A0_0 : Option Addr) (c0_0 : Nat) (l0_0 : List Int) (A0_1 : Option Addr) (c0_1 : Nat) (l0_1 : List (S95)) (r : Bool) (w : World) (hr0_0 : Kd.C (Kd.int .i64) w A0_0 l0_0.length l0_0) (hc0_0 : l0_0.length ≤ c0_0) (hr0_1 : Kd.C k95 w A0_1 l0_1.length l0_1) (hc0_1 : l0_1.length ≤ c0_1) (h : ferruleref23_Good.f k l0_0 l0_1 = some r) :
  Calls Try.prog 29 #[.agg #[.slice A0_0 l0_0.length c0_0, .slice A0_1 l0_1.length c0_1]] w fun e w' => e = .returned (.bool r) ∧ Below w.heap.size w w' := by
 have hu52 := Try.underlying52
 have hu95 := Try.underlying95
 have HR0_0 := Aside0.mk hr0_0
 have HC0_0 := Aside0.mk hc0_0
 clear hr0_0 hc0_0
 have HR0_1 := Aside0.mk hr0_1
 have HC0_1 := Aside0.mk hc0_1
 clear hr0_1 hc0_1
 have HB := Aside0.mk (Below.refl w.heap.size w)
 have H : (if (l0_0.length : Int) > 65536 then (ferruleref23_Good.j0 k true l0_0 l0_1) else (ferruleref23_Good.j0 k (decide ((l0_1.length : Int) > 1048576)) l0_0 l0_1)) = some r := h
 clear h
 have HC2 := Aside0.mk H
 clear H
 go_enter Try.func29, Try.ntmps29
 go_upto_region 1 with (first | ((with_reducible refine gate_dst (N := 1) rfl ?_); (try (refine gate_guard (by rfl) ?_; dsimp only)); refine box_event ?hg (N := 1) ?hd (cs := #[.slice A0_0 l0_0.length c0_0, .slice A0_1 l0_1.length c0_1]) (t := 52) ?hr ?_; (case hd => rfl); (case hg => rfl); (case hr => first | (go_simp; done) | (go_simp; rfl)); intro gb101 hg w3 hbox hb; have BK101 := Aside0.mk hbox; have GW101 := Aside0.mk ((by rw [hg]; exact (below_size bB) : w.heap.size ≤ gb101)); have GE101 := Aside0.mk ((by rw [hg]; exact (below_size bB) : w.heap.size ≤ gb101)); replace HB := aB HB hb; clear hb hbox hg))
 repeat (go_quiet (first | ((with_reducible refine gate_dst (N := 1) rfl ?_); (try (refine gate_guard (by rfl) ?_; dsimp only)); refine box_event ?hg (N := 1) ?hd (cs := #[.slice A0_0 l0_0.length c0_0, .slice A0_1 l0_1.length c0_1]) (t := 52) ?hr ?_; (case hd => rfl); (case hg => rfl); (case hr => first | (go_simp; done) | (go_simp; rfl)); intro gb101 hg w3 hbox hb; have BK101 := Aside0.mk hbox; have GW101 := Aside0.mk ((by rw [hg]; exact (below_size bB) : w.heap.size ≤ gb101)); have GE101 := Aside0.mk ((by rw [hg]; exact (below_size bB) : w.heap.size ≤ gb101)); replace HB := aB HB hb; clear hb hbox hg)); go_upto_region 1 with (first | ((with_reducible refine gate_dst (N := 1) rfl ?_); (try (refine gate_guard (by rfl) ?_; dsimp only)); refine box_event ?hg (N := 1) ?hd (cs := #[.slice A0_0 l0_0.length c0_0, .slice A0_1 l0_1.length c0_1]) (t := 52) ?hr ?_; (case hd => rfl); (case hg => rfl); (case hr => first | (go_simp; done) | (go_simp; rfl)); intro gb101 hg w3 hbox hb; have BK101 := Aside0.mk hbox; have GW101 := Aside0.mk ((by rw [hg]; exact (below_size bB) : w.heap.size ≤ gb101)); have GE101 := Aside0.mk ((by rw [hg]; exact (below_size bB) : w.heap.size ≤ gb101)); replace HB := aB HB hb; clear hb hbox hg)))
 (try simp only [Act.put, List.setIfInBounds_toArray, List.set_cons_zero, List.set_cons_succ])
 go_cut [17] (fun v17 wc => ∃ (kq : Nat) (x17_1 : Bool), v17 = .bool x17_1 ∧ Aside0 (ferruleref23_Good.j0 kq x17_1 l0_0 l0_1 = some r) ∧ Aside0 (kq ≤ k) ∧ Aside0 (wc.heap[gb101]? = some (.cells #[(.slice A0_0 l0_0.length c0_0), (.slice A0_1 l0_1.length c0_1)] 52 (0, 0))) ∧ Aside0 (Below w.heap.size w wc))
 case first =>
  have H := HC2.out
  clear HC2
  by_cases c4 : (l0_0.length : Int) > 65536
  ·rw [if_pos c4] at H
   have c4b0 : decide (65536 < (l0_0.length : Int)) = true := decide_eq_true c4
   have c4b1 : decide (65536 < l0_0.length) = true := decide_eq_true (by omega)
   clear c4
   (first | rw [c4b0] | (simp only [i64_w, i32_w]; rw [c4b0]) | skip)
   have H' := Aside0.mk H
   clear H
   have hcz5_0 : w3.cell? ⟨gb101, 0, none⟩ = some (.slice A0_0 l0_0.length c0_0) := (blk_cell BK101.out 0).trans rfl
   have hcz5_1 : w3.cell? ⟨gb101, 1, none⟩ = some (.slice A0_1 l0_1.length c0_1) := (blk_cell BK101.out 1).trans rfl
   have hfz5_0 := blk_frozen BK101.out 0
   have hfz5_1 := blk_frozen BK101.out 1
   go_wp2
   repeat (go_quiet (fail); try go_wp2)
   go_meet
   case rel => exact ⟨_, (true), bS, H', ⟨by first | omega | exact Nat.le_refl _⟩, ⟨aKw BK101⟩, ⟨bB⟩⟩
  ·rw [if_neg c4] at H
   have c4b0 : decide (65536 < (l0_0.length : Int)) = false := decide_eq_false c4
   have c4b1 : decide (65536 < l0_0.length) = false := decide_eq_false (by omega)
   clear c4
   (first | rw [c4b0] | (simp only [i64_w, i32_w]; rw [c4b0]) | skip)
   have H' := Aside0.mk H
   clear H
   have hcz6_0 : w3.cell? ⟨gb101, 0, none⟩ = some (.slice A0_0 l0_0.length c0_0) := (blk_cell BK101.out 0).trans rfl
   have hcz6_1 : w3.cell? ⟨gb101, 1, none⟩ = some (.slice A0_1 l0_1.length c0_1) := (blk_cell BK101.out 1).trans rfl
   have hfz6_0 := blk_frozen BK101.out 0
   have hfz6_1 := blk_frozen BK101.out 1
   go_wp2
   repeat (go_quiet (fail); try go_wp2)
   go_meet
   case rel => exact ⟨_, (decide ((l0_1.length : Int) > 1048576)), bS, H', ⟨by first | omega | exact Nat.le_refl _⟩, ⟨aKw BK101⟩, ⟨bB⟩⟩
 case rest =>
  clear HC2
  try clear c2
  try clear p2
  try clear c4
  try clear c4b0
  try clear c4b1
  try clear p6
  try clear hcz5_0
  try clear hcz5_1
  try clear hcz6_0
  try clear hcz6_1
  try clear hfz5_0
  try clear hfz5_1
  try clear hfz6_0
  try clear hfz6_1
  obtain ⟨kq, x17_1, rfl, HA, HJ1, BK101, HB⟩ := hcut
  cases kq with
  | zero => exact absurd HA.out (by simp [ferruleref23_Good.j0])
  | succ kj1 =>
   have H := HA.out
   clear HA
   simp only [ferruleref23_Good.j0] at H
   by_cases c7 : x17_1 = true
   ·subst c7
    have H1 : (some false) = some r := by rw [if_pos rfl] at H; exact H
    clear H
    have H := H1
    clear H1
    obtain rfl := Option.some.inj H
    go_wp2
    repeat (go_quiet (fail); try go_wp2)
    go_ret
    exact ⟨by first | rfl | (simp [errW_none, errW_some] <;> rfl) | (simp [*, errW_none, errW_some] <;> rfl), bB⟩
   ·replace c7 := Bool.eq_false_iff.mpr c7
    subst c7
    have H1 : (ferruleref23_Good.l0 kj1 0 l0_0 l0_1) = some r := by rw [if_neg (show ¬ (false = true) by decide)] at H; exact H
    clear H
    have H := H1
    clear H1
    have H' := Aside0.mk H
    clear H
    go_wp2
    repeat (go_quiet (fail); try go_wp2)
    go_loopg [3] kj1 (fun kq v3 w' => ∃ (x3_2 : Int), v3 = .int .i64 x3_2 ∧ Aside0 (ferruleref23_Good.l0 kq x3_2 l0_0 l0_1 = some r) ∧ Aside0 (kq ≤ kj1) ∧ Aside0 (w'.heap[gb101]? = some (.cells #[(.slice A0_0 l0_0.length c0_0), (.slice A0_1 l0_1.length c0_1)] 52 (0, 0))) ∧ Aside0 (Below w.heap.size w w'))
    case atStart => exact ⟨(0), bS, H', ⟨Nat.le_refl _⟩, ⟨aKw BK101⟩, ⟨bB⟩⟩
    case round =>
     clear H'
     try clear c2
     try clear p2
     try clear c4
     try clear c4b0
     try clear c4b1
     try clear p6
     try clear c7
     try clear hcz5_0
     try clear hcz5_1
     try clear hcz6_0
     try clear hcz6_1
     try clear hfz5_0
     try clear hfz5_1
     try clear hfz6_0
     try clear hfz6_1
     try clear p2
     try clear p6
     obtain ⟨x3_2, rfl, HA, HK2, BK101, HB⟩ := hrel
     cases gk with
     | zero => exact absurd HA.out (by simp [ferruleref23_Good.l0])
     | succ k2 =>
      have H := HA.out
      clear HA
      simp only [ferruleref23_Good.l0] at H
      by_cases c8 : x3_2 < (l0_0.length : Int)
      ·rw [if_pos c8] at H
       have c8b0 : decide (x3_2 < (l0_0.length : Int)) = true := decide_eq_true c8
       clear c8
       by_cases c9 : 0 ≤ x3_2
       ·rw [if_pos c9] at H
        have c9b0 : decide (0 ≤ x3_2) = true := decide_eq_true c9
        clear c9
        by_cases c10 : (rd l0_0 x3_2) < 0
        ·rw [if_pos c10] at H
         have c10b0 : decide ((rd l0_0 x3_2) < 0) = true := decide_eq_true c10
         clear c10
         obtain rfl := Option.some.inj H
         have hcz11_0 : wr.cell? ⟨gb101, 0, none⟩ = some (.slice A0_0 l0_0.length c0_0) := (blk_cell BK101.out 0).trans rfl
         have hcz11_1 : wr.cell? ⟨gb101, 1, none⟩ = some (.slice A0_1 l0_1.length c0_1) := (blk_cell BK101.out 1).trans rfl
         have hfz11_0 := blk_frozen BK101.out 0
         have hfz11_1 := blk_frozen BK101.out 1
         have p102 : 0 ≤ (x3_2 : Int) := oD
         have q102 : x3_2 < (l0_0.length : Int) := oD
         obtain ⟨ad102, e102, hx102_0⟩ := Kd.at_int HR0_0.out x3_2 p102 q102
         cases e102
         replace hx102_0 := (HB.out.cell (World.block_lt_of_cell? w _ hx102_0)).trans hx102_0
         replace p102 := eq_true p102
         replace q102 := eq_true q102
         go_wp2
         repeat (go_quiet (fail); try go_wp2)
         go_ret
         exact ⟨by first | rfl | (simp [errW_none, errW_some] <;> rfl) | (simp [*, errW_none, errW_some] <;> rfl), bB⟩
        ·rw [if_neg c10] at H
         have c10b0 : decide ((rd l0_0 x3_2) < 0) = false := decide_eq_false c10
         clear c10
         by_cases c12 : (rd l0_0 x3_2) > 1048575
         ·rw [if_pos c12] at H
          have c12b0 : decide (1048575 < (rd l0_0 x3_2)) = true := decide_eq_true c12
          clear c12
          obtain rfl := Option.some.inj H
          have hcz13_0 : wr.cell? ⟨gb101, 0, none⟩ = some (.slice A0_0 l0_0.length c0_0) := (blk_cell BK101.out 0).trans rfl
          have hcz13_1 : wr.cell? ⟨gb101, 1, none⟩ = some (.slice A0_1 l0_1.length c0_1) := (blk_cell BK101.out 1).trans rfl
          have hfz13_0 := blk_frozen BK101.out 0
          have hfz13_1 := blk_frozen BK101.out 1
          have p102 : 0 ≤ (x3_2 : Int) := oD
          have q102 : x3_2 < (l0_0.length : Int) := oD
          obtain ⟨ad102, e102, hx102_0⟩ := Kd.at_int HR0_0.out x3_2 p102 q102
          cases e102
          replace hx102_0 := (HB.out.cell (World.block_lt_of_cell? w _ hx102_0)).trans hx102_0
          replace p102 := eq_true p102
          replace q102 := eq_true q102
          have p103 : 0 ≤ (x3_2 : Int) := oD
          have q103 : x3_2 < (l0_0.length : Int) := oD
          obtain ⟨ad103, e103, hx103_0⟩ := Kd.at_int HR0_0.out x3_2 p103 q103
          obtain rfl : ad102 = ad103 := (by injection e103)
          replace hx103_0 := (HB.out.cell (World.block_lt_of_cell? w _ hx103_0)).trans hx103_0
          replace p103 := eq_true p103
          replace q103 := eq_true q103
          go_wp2
          repeat (go_quiet (fail); try go_wp2)
          go_ret
          exact ⟨by first | rfl | (simp [errW_none, errW_some] <;> rfl) | (simp [*, errW_none, errW_some] <;> rfl), bB⟩
         ·rw [if_neg c12] at H
          have c12b0 : decide (1048575 < (rd l0_0 x3_2)) = false := decide_eq_false c12
          clear c12
          by_cases c14 : x3_2 > 0
          ·rw [if_pos c14] at H
           have c14b0 : decide (0 < x3_2) = true := decide_eq_true c14
           clear c14
           obtain ⟨ji15, hji15⟩ : ∃ j_ : Int, (wrap64 (x3_2 - 1)) = j_ := ⟨_, rfl⟩
           replace H : (if 0 ≤ (ji15) then (if (ji15) < (l0_0.length : Int) then (if (rd l0_0 x3_2) ≤ (rd l0_0 (ji15)) then (some false) else (ferruleref23_Good.l0 k2 (wrap64 (x3_2 + 1)) l0_0 l0_1)) else (none)) else (none)) = some r := by first | (rw [hji15] at H; exact H) | (simp only [hji15] at H ⊢; exact H)
           have hji15w : (IntKind.i64.wrap (x3_2 - 1)) = ji15 := (i64_w _).trans hji15
           by_cases c16 : 0 ≤ (ji15)
           ·rw [if_pos c16] at H
            have c16b0 : decide (0 ≤ (ji15)) = true := decide_eq_true c16
            clear c16
            by_cases c17 : (ji15) < (l0_0.length : Int)
            ·rw [if_pos c17] at H
             have c17b0 : decide ((ji15) < (l0_0.length : Int)) = true := decide_eq_true c17
             clear c17
             by_cases c18 : (rd l0_0 x3_2) ≤ (rd l0_0 (ji15))
             ·rw [if_pos c18] at H
              have c18b0 : decide ((rd l0_0 x3_2) ≤ (rd l0_0 (ji15))) = true := decide_eq_true c18
              clear c18
              obtain rfl := Option.some.inj H
              have hcz19_0 : wr.cell? ⟨gb101, 0, none⟩ = some (.slice A0_0 l0_0.length c0_0) := (blk_cell BK101.out 0).trans rfl
              have hcz19_1 : wr.cell? ⟨gb101, 1, none⟩ = some (.slice A0_1 l0_1.length c0_1) := (blk_cell BK101.out 1).trans rfl
              have hfz19_0 := blk_frozen BK101.out 0
              have hfz19_1 := blk_frozen BK101.out 1
              have p102 : 0 ≤ (x3_2 : Int) := oD
              have q102 : x3_2 < (l0_0.length : Int) := oD
              obtain ⟨ad102, e102, hx102_0⟩ := Kd.at_int HR0_0.out x3_2 p102 q102
              cases e102
              replace hx102_0 := (HB.out.cell (World.block_lt_of_cell? w _ hx102_0)).trans hx102_0
              replace p102 := eq_true p102
              replace q102 := eq_true q102
              have p103 : 0 ≤ (x3_2 : Int) := oD
              have q103 : x3_2 < (l0_0.length : Int) := oD
              obtain ⟨ad103, e103, hx103_0⟩ := Kd.at_int HR0_0.out x3_2 p103 q103
              obtain rfl : ad102 = ad103 := (by injection e103)
              replace hx103_0 := (HB.out.cell (World.block_lt_of_cell? w _ hx103_0)).trans hx103_0
              replace p103 := eq_true p103
              replace q103 := eq_true q103
              have p104 : 0 ≤ (x3_2 : Int) := oD
              have q104 : x3_2 < (l0_0.length : Int) := oD
              obtain ⟨ad104, e104, hx104_0⟩ := Kd.at_int HR0_0.out x3_2 p104 q104
              obtain rfl : ad102 = ad104 := (by injection e104)
              replace hx104_0 := (HB.out.cell (World.block_lt_of_cell? w _ hx104_0)).trans hx104_0
              replace p104 := eq_true p104
              replace q104 := eq_true q104
              have p105 : 0 ≤ ((ji15) : Int) := oD
              have q105 : (ji15) < (l0_0.length : Int) := oD
              obtain ⟨ad105, e105, hx105_0⟩ := Kd.at_int HR0_0.out (ji15) p105 q105
              obtain rfl : ad102 = ad105 := (by injection e105)
              replace hx105_0 := (HB.out.cell (World.block_lt_of_cell? w _ hx105_0)).trans hx105_0
              replace p105 := eq_true p105
              replace q105 := eq_true q105
              go_wp2
              repeat (go_quiet (fail); try go_wp2)
              go_ret
              exact ⟨by first | rfl | (simp [errW_none, errW_some] <;> rfl) | (simp only [← hji15]; first | rfl | (simp [errW_none, errW_some] <;> rfl)) | (simp [*, errW_none, errW_some] <;> rfl), bB⟩
             ·rw [if_neg c18] at H
              have c18b0 : decide ((rd l0_0 x3_2) ≤ (rd l0_0 (ji15))) = false := decide_eq_false c18
              clear c18
              have H' := Aside0.mk H
              clear H
              have hcz20_0 : wr.cell? ⟨gb101, 0, none⟩ = some (.slice A0_0 l0_0.length c0_0) := (blk_cell BK101.out 0).trans rfl
              have hcz20_1 : wr.cell? ⟨gb101, 1, none⟩ = some (.slice A0_1 l0_1.length c0_1) := (blk_cell BK101.out 1).trans rfl
              have hfz20_0 := blk_frozen BK101.out 0
              have hfz20_1 := blk_frozen BK101.out 1
              have p102 : 0 ≤ (x3_2 : Int) := oD
              have q102 : x3_2 < (l0_0.length : Int) := oD
              obtain ⟨ad102, e102, hx102_0⟩ := Kd.at_int HR0_0.out x3_2 p102 q102
              cases e102
              replace hx102_0 := (HB.out.cell (World.block_lt_of_cell? w _ hx102_0)).trans hx102_0
              replace p102 := eq_true p102
              replace q102 := eq_true q102
              have p103 : 0 ≤ (x3_2 : Int) := oD
              have q103 : x3_2 < (l0_0.length : Int) := oD
              obtain ⟨ad103, e103, hx103_0⟩ := Kd.at_int HR0_0.out x3_2 p103 q103
              obtain rfl : ad102 = ad103 := (by injection e103)
              replace hx103_0 := (HB.out.cell (World.block_lt_of_cell? w _ hx103_0)).trans hx103_0
              replace p103 := eq_true p103
              replace q103 := eq_true q103
              have p104 : 0 ≤ (x3_2 : Int) := oD
              have q104 : x3_2 < (l0_0.length : Int) := oD
              obtain ⟨ad104, e104, hx104_0⟩ := Kd.at_int HR0_0.out x3_2 p104 q104
              obtain rfl : ad102 = ad104 := (by injection e104)
              replace hx104_0 := (HB.out.cell (World.block_lt_of_cell? w _ hx104_0)).trans hx104_0
              replace p104 := eq_true p104
              replace q104 := eq_true q104
              have p105 : 0 ≤ ((ji15) : Int) := oD
              have q105 : (ji15) < (l0_0.length : Int) := oD
              obtain ⟨ad105, e105, hx105_0⟩ := Kd.at_int HR0_0.out (ji15) p105 q105
              obtain rfl : ad102 = ad105 := (by injection e105)
              replace hx105_0 := (HB.out.cell (World.block_lt_of_cell? w _ hx105_0)).trans hx105_0
              replace p105 := eq_true p105
              replace q105 := eq_true q105
              go_wp2
              repeat (go_quiet (fail); try go_wp2)
              go_roundg k2
              case measure => have := HJ1.out; have := HK2.out; omega
              case rel => exact ⟨(wrap64 (x3_2 + 1)), bS, H', ⟨by have := HJ1.out; have := HK2.out; omega⟩, ⟨aKw BK101⟩, ⟨bB⟩⟩
            ·rw [if_neg c17] at H
             exact absurd H (by simp)
           ·rw [if_neg c16] at H
            exact absurd H (by simp)
          ·rw [if_neg c14] at H
           have c14b0 : decide (0 < x3_2) = false := decide_eq_false c14
           clear c14
           have H' := Aside0.mk H
           clear H
           have hcz21_0 : wr.cell? ⟨gb101, 0, none⟩ = some (.slice A0_0 l0_0.length c0_0) := (blk_cell BK101.out 0).trans rfl
           have hcz21_1 : wr.cell? ⟨gb101, 1, none⟩ = some (.slice A0_1 l0_1.length c0_1) := (blk_cell BK101.out 1).trans rfl
           have hfz21_0 := blk_frozen BK101.out 0
           have hfz21_1 := blk_frozen BK101.out 1
           have p102 : 0 ≤ (x3_2 : Int) := oD
           have q102 : x3_2 < (l0_0.length : Int) := oD
           obtain ⟨ad102, e102, hx102_0⟩ := Kd.at_int HR0_0.out x3_2 p102 q102
           cases e102
           replace hx102_0 := (HB.out.cell (World.block_lt_of_cell? w _ hx102_0)).trans hx102_0
           replace p102 := eq_true p102
           replace q102 := eq_true q102
           have p103 : 0 ≤ (x3_2 : Int) := oD
           have q103 : x3_2 < (l0_0.length : Int) := oD
           obtain ⟨ad103, e103, hx103_0⟩ := Kd.at_int HR0_0.out x3_2 p103 q103
           obtain rfl : ad102 = ad103 := (by injection e103)
           replace hx103_0 := (HB.out.cell (World.block_lt_of_cell? w _ hx103_0)).trans hx103_0
           replace p103 := eq_true p103
           replace q103 := eq_true q103
           go_wp2
           repeat (go_quiet (fail); try go_wp2)
           go_roundg k2
           case measure => have := HJ1.out; have := HK2.out; omega
           case rel => exact ⟨(wrap64 (x3_2 + 1)), bS, H', ⟨by have := HJ1.out; have := HK2.out; omega⟩, ⟨aKw BK101⟩, ⟨bB⟩⟩
       ·rw [if_neg c9] at H
        exact absurd H (by simp)
      ·rw [if_neg c8] at H
       have c8b0 : decide (x3_2 < (l0_0.length : Int)) = false := decide_eq_false c8
       clear c8
       have H' := Aside0.mk H
       clear H
       have hcz22_0 : wr.cell? ⟨gb101, 0, none⟩ = some (.slice A0_0 l0_0.length c0_0) := (blk_cell BK101.out 0).trans rfl
       have hcz22_1 : wr.cell? ⟨gb101, 1, none⟩ = some (.slice A0_1 l0_1.length c0_1) := (blk_cell BK101.out 1).trans rfl
       have hfz22_0 := blk_frozen BK101.out 0
       have hfz22_1 := blk_frozen BK101.out 1
       go_wp2
       repeat (go_quiet (fail); try go_wp2)
       go_loopg [4] k2 (fun kq v4 w' => ∃ (x4_3 : Int), v4 = .int .i64 x4_3 ∧ Aside0 (ferruleref23_Good.l1 kq x4_3 l0_0 l0_1 = some r) ∧ Aside0 (kq ≤ k2) ∧ Aside0 (w'.heap[gb101]? = some (.cells #[(.slice A0_0 l0_0.length c0_0), (.slice A0_1 l0_1.length c0_1)] 52 (0, 0))) ∧ Aside0 (Below w.heap.size w w'))
       case atStart => exact ⟨(0), bS, H', ⟨Nat.le_refl _⟩, ⟨aKw BK101⟩, ⟨bB⟩⟩
       case round =>
        clear H'
        try clear c1
        try clear p1
        try clear q1
        try clear hx1
        try clear c2
        try clear p2
        try clear c4
        try clear c4b0
        try clear c4b1
        try clear p6
        try clear c7
        try clear c8
        try clear c8b0
        try clear c9
        try clear c9b0
        try clear c10
        try clear c10b0
        try clear p10
        try clear q10
        try clear hx10
        try clear c12
        try clear c12b0
        try clear c14
        try clear c14b0
        try clear c16
        try clear c16b0
        try clear c17
        try clear c17b0
        try clear c18
        try clear c18b0
        try clear hcz11_0
        try clear hcz11_1
        try clear hcz13_0
        try clear hcz13_1
        try clear hcz19_0
        try clear hcz19_1
        try clear hcz20_0
        try clear hcz20_1
        try clear hcz21_0
        try clear hcz21_1
        try clear hcz22_0
        try clear hcz22_1
        try clear hcz5_0
        try clear hcz5_1
        try clear hcz6_0
        try clear hcz6_1
        try clear hfz11_0
        try clear hfz11_1
        try clear hfz13_0
        try clear hfz13_1
        try clear hfz19_0
        try clear hfz19_1
        try clear hfz20_0
        try clear hfz20_1
        try clear hfz21_0
        try clear hfz21_1
        try clear hfz22_0
        try clear hfz22_1
        try clear hfz5_0
        try clear hfz5_1
        try clear hfz6_0
        try clear hfz6_1
        try clear hx102_0
        try clear hx103_0
        try clear hx104_0
        try clear hx105_0
        try clear p102
        try clear p103
        try clear p104
        try clear p105
        try clear p2
        try clear p6
        try clear q102
        try clear q103
        try clear q104
        try clear q105
        obtain ⟨x4_3, rfl, HA, HK3, BK101, HB⟩ := hrel
        cases gk with
        | zero => exact absurd HA.out (by simp [ferruleref23_Good.l1])
        | succ k3 =>
         have H := HA.out
         clear HA
         simp only [ferruleref23_Good.l1] at H
         by_cases c23 : x4_3 < (l0_1.length : Int)
         ·rw [if_pos c23] at H
          have c23b0 : decide (x4_3 < (l0_1.length : Int)) = true := decide_eq_true c23
          clear c23
          by_cases c24 : 0 ≤ x4_3
          ·rw [if_pos c24] at H
           have c24b0 : decide (0 ≤ x4_3) = true := decide_eq_true c24
           clear c24
           replace H := Option.bind_eq_some_iff.mp H
           obtain ⟨⟨t108, t109⟩, A250, H⟩ := H
           replace H : (if ((rd_T95 l0_1 x4_3).f0) < 0 then (some false) else (if ((rd_T95 l0_1 x4_3).f0) > 2 then (some false) else (if (((rd_T95 l0_1 x4_3).f1).length : Int) > 4096 then (some false) else (if t109 = true then (some false) else ((ferruleref12_Same.f k3 t108 ((rd_T95 l0_1 x4_3).f1)).bind fun t112 => (if t112 = true then (ferruleref23_Good.l1 k3 (wrap64 (x4_3 + 1)) l0_0 l0_1) else (some false))))))) = some r := H
           have A25 := Aside0.mk A250
           clear A250
           by_cases c26 : ((rd_T95 l0_1 x4_3).f0) < 0
           ·rw [if_pos c26] at H
            have c26b0 : decide (((rd_T95 l0_1 x4_3).f0) < 0) = true := decide_eq_true c26
            clear c26
            obtain rfl := Option.some.inj H
            have hcz27_0 : wr.cell? ⟨gb101, 0, none⟩ = some (.slice A0_0 l0_0.length c0_0) := (blk_cell BK101.out 0).trans rfl
            have hcz27_1 : wr.cell? ⟨gb101, 1, none⟩ = some (.slice A0_1 l0_1.length c0_1) := (blk_cell BK101.out 1).trans rfl
            have hfz27_0 := blk_frozen BK101.out 0
            have hfz27_1 := blk_frozen BK101.out 1
            have p106 : 0 ≤ (x4_3 : Int) := oD
            have q106 : x4_3 < (l0_1.length : Int) := oD
            obtain ⟨ad106, A106_1, c106_1, e106, hx106_0, hx106_1, hl106_1, hi106_1⟩ := at_T95 HR0_1.out x4_3 p106 q106
            cases e106
            replace hx106_0 := (HB.out.cell (World.block_lt_of_cell? w _ hx106_0)).trans hx106_0
            replace hx106_1 := (HB.out.cell (World.block_lt_of_cell? w _ hx106_1)).trans hx106_1
            have HR106_1 := Aside0.mk hi106_1
            have HC106_1 := Aside0.mk hl106_1
            clear hi106_1 hl106_1
            replace p106 := eq_true p106
            replace q106 := eq_true q106
            go_wp2_with (first | ((with_reducible refine gate_dst (N := 5) rfl ?_); (try (refine gate_guard (by rfl) ?_; dsimp only)); refine box_event ?hg (N := 5) ?hd (cs := #[.int .i64 0, .slice none 0 0]) (t := 95) ?hr ?_; (case hd => rfl); (case hg => rfl); (case hr => first | (go_simp; done) | (go_simp; rfl)); intro gb107 hg w28 hbox hb; have BK107 := Aside0.mk hbox; have GW107 := Aside0.mk ((by rw [hg]; exact (below_size bB) : w.heap.size ≤ gb107)); have GE107 := Aside0.mk ((by rw [hg]; exact (below_size bB) : w.heap.size ≤ gb107)); replace HB := aB HB hb; have NB101_107 := Aside0.mk ((by rw [hg]; exact Nat.ne_of_lt (blk_lt (g := gb101) (o := .cells #[.slice A0_0 l0_0.length c0_0, .slice (some ad106) l0_1.length c0_1] 52 (0, 0)) (aKw BK101)) : gb101 ≠ gb107)); have NB107_101 := Aside0.mk ((by rw [hg]; exact Nat.ne_of_gt (blk_lt (g := gb101) (o := .cells #[.slice A0_0 l0_0.length c0_0, .slice (some ad106) l0_1.length c0_1] 52 (0, 0)) (aKw BK101)) : gb107 ≠ gb101)); replace BK101 := aK BK101 hb; clear hb hbox hg; have hnb29 := NB107_101.out; have hnc29 := NB101_107.out; have hcz30_0 : w28.cell? ⟨gb107, 0, none⟩ = some (.int .i64 0) := (blk_cell BK107.out 0).trans rfl; have hcz30_1 : w28.cell? ⟨gb107, 1, none⟩ = some (.slice none 0 0) := (blk_cell BK107.out 1).trans rfl; have hfz30_0 := blk_frozen BK107.out 0; have hfz30_1 := blk_frozen BK107.out 1) | (go_at_call 64; (with_reducible refine (ferruleref12_Clean.calls k3 _ _ ((rd_T95 l0_1 x4_3).f1) t108 t109 _ ?side1 ?side2 A25.out).mono ?_); (case side1 => exact Kd.C_below HR106_1.out bB); (case side2 => exact HC106_1.out); rintro e w31 ⟨v110, rfl, ho0, hb⟩; have HO111 := aL ho0 HB; replace BK101 := Aside0.mk (blk_below (g := gb101) (o := .cells #[.slice A0_0 l0_0.length c0_0, .slice (some ad106) l0_1.length c0_1] 52 (0, 0)) (aKf BK101) hb); replace BK107 := Aside0.mk (blk_below (g := gb107) (o := .cells #[.int .i64 ((rd_T95 l0_1 x4_3).f0), .slice A106_1 ((rd_T95 l0_1 x4_3).f1).length c106_1] 95 (0, 0)) (by (with_reducible repeat (first | refine blk_drewN ?_ _ | refine blk_drew ?_ | refine blk_alloc ?_ _)); refine blk_put (cs := #[.int .i64 ((rd_T95 l0_1 x4_3).f0), .slice none 0 0]) ?_ 1 _ rfl; (with_reducible repeat (first | refine blk_drewN ?_ _ | refine blk_drew ?_ | refine blk_alloc ?_ _)); refine blk_put (cs := #[.int .i64 0, .slice none 0 0]) ?_ 0 _ rfl; (with_reducible repeat (first | refine blk_drewN ?_ _ | refine blk_drew ?_ | refine blk_alloc ?_ _)); exact BK107.out) hb); replace HB := aB HB hb; (try clear hb); (try clear hb2); (try clear hk); (try clear hi); (try clear ho0); have hcz32_0 : w31.cell? ⟨gb107, 0, none⟩ = some (.int .i64 ((rd_T95 l0_1 x4_3).f0)) := (blk_cell BK107.out 0).trans rfl; have hcz32_1 : w31.cell? ⟨gb107, 1, none⟩ = some (.slice A106_1 ((rd_T95 l0_1 x4_3).f1).length c106_1) := (blk_cell BK107.out 1).trans rfl; have hfz32_0 := blk_frozen BK107.out 0; have hfz32_1 := blk_frozen BK107.out 1))
            repeat (go_quiet (first | ((with_reducible refine gate_dst (N := 5) rfl ?_); (try (refine gate_guard (by rfl) ?_; dsimp only)); refine box_event ?hg (N := 5) ?hd (cs := #[.int .i64 0, .slice none 0 0]) (t := 95) ?hr ?_; (case hd => rfl); (case hg => rfl); (case hr => first | (go_simp; done) | (go_simp; rfl)); intro gb107 hg w28 hbox hb; have BK107 := Aside0.mk hbox; have GW107 := Aside0.mk ((by rw [hg]; exact (below_size bB) : w.heap.size ≤ gb107)); have GE107 := Aside0.mk ((by rw [hg]; exact (below_size bB) : w.heap.size ≤ gb107)); replace HB := aB HB hb; have NB101_107 := Aside0.mk ((by rw [hg]; exact Nat.ne_of_lt (blk_lt (g := gb101) (o := .cells #[.slice A0_0 l0_0.length c0_0, .slice (some ad106) l0_1.length c0_1] 52 (0, 0)) (aKw BK101)) : gb101 ≠ gb107)); have NB107_101 := Aside0.mk ((by rw [hg]; exact Nat.ne_of_gt (blk_lt (g := gb101) (o := .cells #[.slice A0_0 l0_0.length c0_0, .slice (some ad106) l0_1.length c0_1] 52 (0, 0)) (aKw BK101)) : gb107 ≠ gb101)); replace BK101 := aK BK101 hb; clear hb hbox hg; have hnb29 := NB107_101.out; have hnc29 := NB101_107.out; have hcz30_0 : w28.cell? ⟨gb107, 0, none⟩ = some (.int .i64 0) := (blk_cell BK107.out 0).trans rfl; have hcz30_1 : w28.cell? ⟨gb107, 1, none⟩ = some (.slice none 0 0) := (blk_cell BK107.out 1).trans rfl; have hfz30_0 := blk_frozen BK107.out 0; have hfz30_1 := blk_frozen BK107.out 1) | (go_at_call 64; (with_reducible refine (ferruleref12_Clean.calls k3 _ _ ((rd_T95 l0_1 x4_3).f1) t108 t109 _ ?side1 ?side2 A25.out).mono ?_); (case side1 => exact Kd.C_below HR106_1.out bB); (case side2 => exact HC106_1.out); rintro e w31 ⟨v110, rfl, ho0, hb⟩; have HO111 := aL ho0 HB; replace BK101 := Aside0.mk (blk_below (g := gb101) (o := .cells #[.slice A0_0 l0_0.length c0_0, .slice (some ad106) l0_1.length c0_1] 52 (0, 0)) (aKf BK101) hb); replace BK107 := Aside0.mk (blk_below (g := gb107) (o := .cells #[.int .i64 ((rd_T95 l0_1 x4_3).f0), .slice A106_1 ((rd_T95 l0_1 x4_3).f1).length c106_1] 95 (0, 0)) (by (with_reducible repeat (first | refine blk_drewN ?_ _ | refine blk_drew ?_ | refine blk_alloc ?_ _)); refine blk_put (cs := #[.int .i64 ((rd_T95 l0_1 x4_3).f0), .slice none 0 0]) ?_ 1 _ rfl; (with_reducible repeat (first | refine blk_drewN ?_ _ | refine blk_drew ?_ | refine blk_alloc ?_ _)); refine blk_put (cs := #[.int .i64 0, .slice none 0 0]) ?_ 0 _ rfl; (with_reducible repeat (first | refine blk_drewN ?_ _ | refine blk_drew ?_ | refine blk_alloc ?_ _)); exact BK107.out) hb); replace HB := aB HB hb; (try clear hb); (try clear hb2); (try clear hk); (try clear hi); (try clear ho0); have hcz32_0 : w31.cell? ⟨gb107, 0, none⟩ = some (.int .i64 ((rd_T95 l0_1 x4_3).f0)) := (blk_cell BK107.out 0).trans rfl; have hcz32_1 : w31.cell? ⟨gb107, 1, none⟩ = some (.slice A106_1 ((rd_T95 l0_1 x4_3).f1).length c106_1) := (blk_cell BK107.out 1).trans rfl; have hfz32_0 := blk_frozen BK107.out 0; have hfz32_1 := blk_frozen BK107.out 1)); try go_wp2_with (first | ((with_reducible refine gate_dst (N := 5) rfl ?_); (try (refine gate_guard (by rfl) ?_; dsimp only)); refine box_event ?hg (N := 5) ?hd (cs := #[.int .i64 0, .slice none 0 0]) (t := 95) ?hr ?_; (case hd => rfl); (case hg => rfl); (case hr => first | (go_simp; done) | (go_simp; rfl)); intro gb107 hg w28 hbox hb; have BK107 := Aside0.mk hbox; have GW107 := Aside0.mk ((by rw [hg]; exact (below_size bB) : w.heap.size ≤ gb107)); have GE107 := Aside0.mk ((by rw [hg]; exact (below_size bB) : w.heap.size ≤ gb107)); replace HB := aB HB hb; have NB101_107 := Aside0.mk ((by rw [hg]; exact Nat.ne_of_lt (blk_lt (g := gb101) (o := .cells #[.slice A0_0 l0_0.length c0_0, .slice (some ad106) l0_1.length c0_1] 52 (0, 0)) (aKw BK101)) : gb101 ≠ gb107)); have NB107_101 := Aside0.mk ((by rw [hg]; exact Nat.ne_of_gt (blk_lt (g := gb101) (o := .cells #[.slice A0_0 l0_0.length c0_0, .slice (some ad106) l0_1.length c0_1] 52 (0, 0)) (aKw BK101)) : gb107 ≠ gb101)); replace BK101 := aK BK101 hb; clear hb hbox hg; have hnb29 := NB107_101.out; have hnc29 := NB101_107.out; have hcz30_0 : w28.cell? ⟨gb107, 0, none⟩ = some (.int .i64 0) := (blk_cell BK107.out 0).trans rfl; have hcz30_1 : w28.cell? ⟨gb107, 1, none⟩ = some (.slice none 0 0) := (blk_cell BK107.out 1).trans rfl; have hfz30_0 := blk_frozen BK107.out 0; have hfz30_1 := blk_frozen BK107.out 1) | (go_at_call 64; (with_reducible refine (ferruleref12_Clean.calls k3 _ _ ((rd_T95 l0_1 x4_3).f1) t108 t109 _ ?side1 ?side2 A25.out).mono ?_); (case side1 => exact Kd.C_below HR106_1.out bB); (case side2 => exact HC106_1.out); rintro e w31 ⟨v110, rfl, ho0, hb⟩; have HO111 := aL ho0 HB; replace BK101 := Aside0.mk (blk_below (g := gb101) (o := .cells #[.slice A0_0 l0_0.length c0_0, .slice (some ad106) l0_1.length c0_1] 52 (0, 0)) (aKf BK101) hb); replace BK107 := Aside0.mk (blk_below (g := gb107) (o := .cells #[.int .i64 ((rd_T95 l0_1 x4_3).f0), .slice A106_1 ((rd_T95 l0_1 x4_3).f1).length c106_1] 95 (0, 0)) (by (with_reducible repeat (first | refine blk_drewN ?_ _ | refine blk_drew ?_ | refine blk_alloc ?_ _)); refine blk_put (cs := #[.int .i64 ((rd_T95 l0_1 x4_3).f0), .slice none 0 0]) ?_ 1 _ rfl; (with_reducible repeat (first | refine blk_drewN ?_ _ | refine blk_drew ?_ | refine blk_alloc ?_ _)); refine blk_put (cs := #[.int .i64 0, .slice none 0 0]) ?_ 0 _ rfl; (with_reducible repeat (first | refine blk_drewN ?_ _ | refine blk_drew ?_ | refine blk_alloc ?_ _)); exact BK107.out) hb); replace HB := aB HB hb; (try clear hb); (try clear hb2); (try clear hk); (try clear hi); (try clear ho0); have hcz32_0 : w31.cell? ⟨gb107, 0, none⟩ = some (.int .i64 ((rd_T95 l0_1 x4_3).f0)) := (blk_cell BK107.out 0).trans rfl; have hcz32_1 : w31.cell? ⟨gb107, 1, none⟩ = some (.slice A106_1 ((rd_T95 l0_1 x4_3).f1).length c106_1) := (blk_cell BK107.out 1).trans rfl; have hfz32_0 := blk_frozen BK107.out 0; have hfz32_1 := blk_frozen BK107.out 1)))
            go_ret
            exact ⟨by first | rfl | (simp [errW_none, errW_some] <;> rfl) | (simp [*, errW_none, errW_some] <;> rfl), bB⟩
           ·rw [if_neg c26] at H
            have c26b0 : decide (((rd_T95 l0_1 x4_3).f0) < 0) = false := decide_eq_false c26
            clear c26
            by_cases c33 : ((rd_T95 l0_1 x4_3).f0) > 2
            ·rw [if_pos c33] at H
             have c33b0 : decide (2 < ((rd_T95 l0_1 x4_3).f0)) = true := decide_eq_true c33
             clear c33
             obtain rfl := Option.some.inj H
             have hcz34_0 : wr.cell? ⟨gb101, 0, none⟩ = some (.slice A0_0 l0_0.length c0_0) := (blk_cell BK101.out 0).trans rfl
             have hcz34_1 : wr.cell? ⟨gb101, 1, none⟩ = some (.slice A0_1 l0_1.length c0_1) := (blk_cell BK101.out 1).trans rfl
             have hfz34_0 := blk_frozen BK101.out 0
             have hfz34_1 := blk_frozen BK101.out 1
             have p106 : 0 ≤ (x4_3 : Int) := oD
             have q106 : x4_3 < (l0_1.length : Int) := oD
             obtain ⟨ad106, A106_1, c106_1, e106, hx106_0, hx106_1, hl106_1, hi106_1⟩ := at_T95 HR0_1.out x4_3 p106 q106
             cases e106
             replace hx106_0 := (HB.out.cell (World.block_lt_of_cell? w _ hx106_0)).trans hx106_0
             replace hx106_1 := (HB.out.cell (World.block_lt_of_cell? w _ hx106_1)).trans hx106_1
             have HR106_1 := Aside0.mk hi106_1
             have HC106_1 := Aside0.mk hl106_1
             clear hi106_1 hl106_1
             replace p106 := eq_true p106
             replace q106 := eq_true q106
             go_wp2_with (first | ((with_reducible refine gate_dst (N := 5) rfl ?_); (try (refine gate_guard (by rfl) ?_; dsimp only)); refine box_event ?hg (N := 5) ?hd (cs := #[.int .i64 0, .slice none 0 0]) (t := 95) ?hr ?_; (case hd => rfl); (case hg => rfl); (case hr => first | (go_simp; done) | (go_simp; rfl)); intro gb107 hg w35 hbox hb; have BK107 := Aside0.mk hbox; have GW107 := Aside0.mk ((by rw [hg]; exact (below_size bB) : w.heap.size ≤ gb107)); have GE107 := Aside0.mk ((by rw [hg]; exact (below_size bB) : w.heap.size ≤ gb107)); replace HB := aB HB hb; have NB101_107 := Aside0.mk ((by rw [hg]; exact Nat.ne_of_lt (blk_lt (g := gb101) (o := .cells #[.slice A0_0 l0_0.length c0_0, .slice (some ad106) l0_1.length c0_1] 52 (0, 0)) (aKw BK101)) : gb101 ≠ gb107)); have NB107_101 := Aside0.mk ((by rw [hg]; exact Nat.ne_of_gt (blk_lt (g := gb101) (o := .cells #[.slice A0_0 l0_0.length c0_0, .slice (some ad106) l0_1.length c0_1] 52 (0, 0)) (aKw BK101)) : gb107 ≠ gb101)); replace BK101 := aK BK101 hb; clear hb hbox hg; have hnb36 := NB107_101.out; have hnc36 := NB101_107.out; have hcz37_0 : w35.cell? ⟨gb107, 0, none⟩ = some (.int .i64 0) := (blk_cell BK107.out 0).trans rfl; have hcz37_1 : w35.cell? ⟨gb107, 1, none⟩ = some (.slice none 0 0) := (blk_cell BK107.out 1).trans rfl; have hfz37_0 := blk_frozen BK107.out 0; have hfz37_1 := blk_frozen BK107.out 1) | (go_at_call 64; (with_reducible refine (ferruleref12_Clean.calls k3 _ _ ((rd_T95 l0_1 x4_3).f1) t108 t109 _ ?side1 ?side2 A25.out).mono ?_); (case side1 => exact Kd.C_below HR106_1.out bB); (case side2 => exact HC106_1.out); rintro e w38 ⟨v110, rfl, ho0, hb⟩; have HO111 := aL ho0 HB; replace BK101 := Aside0.mk (blk_below (g := gb101) (o := .cells #[.slice A0_0 l0_0.length c0_0, .slice (some ad106) l0_1.length c0_1] 52 (0, 0)) (aKf BK101) hb); replace BK107 := Aside0.mk (blk_below (g := gb107) (o := .cells #[.int .i64 ((rd_T95 l0_1 x4_3).f0), .slice A106_1 ((rd_T95 l0_1 x4_3).f1).length c106_1] 95 (0, 0)) (by (with_reducible repeat (first | refine blk_drewN ?_ _ | refine blk_drew ?_ | refine blk_alloc ?_ _)); refine blk_put (cs := #[.int .i64 ((rd_T95 l0_1 x4_3).f0), .slice none 0 0]) ?_ 1 _ rfl; (with_reducible repeat (first | refine blk_drewN ?_ _ | refine blk_drew ?_ | refine blk_alloc ?_ _)); refine blk_put (cs := #[.int .i64 0, .slice none 0 0]) ?_ 0 _ rfl; (with_reducible repeat (first | refine blk_drewN ?_ _ | refine blk_drew ?_ | refine blk_alloc ?_ _)); exact BK107.out) hb); replace HB := aB HB hb; (try clear hb); (try clear hb2); (try clear hk); (try clear hi); (try clear ho0); have hcz39_0 : w38.cell? ⟨gb107, 0, none⟩ = some (.int .i64 ((rd_T95 l0_1 x4_3).f0)) := (blk_cell BK107.out 0).trans rfl; have hcz39_1 : w38.cell? ⟨gb107, 1, none⟩ = some (.slice A106_1 ((rd_T95 l0_1 x4_3).f1).length c106_1) := (blk_cell BK107.out 1).trans rfl; have hfz39_0 := blk_frozen BK107.out 0; have hfz39_1 := blk_frozen BK107.out 1))
             repeat (go_quiet (first | ((with_reducible refine gate_dst (N := 5) rfl ?_); (try (refine gate_guard (by rfl) ?_; dsimp only)); refine box_event ?hg (N := 5) ?hd (cs := #[.int .i64 0, .slice none 0 0]) (t := 95) ?hr ?_; (case hd => rfl); (case hg => rfl); (case hr => first | (go_simp; done) | (go_simp; rfl)); intro gb107 hg w35 hbox hb; have BK107 := Aside0.mk hbox; have GW107 := Aside0.mk ((by rw [hg]; exact (below_size bB) : w.heap.size ≤ gb107)); have GE107 := Aside0.mk ((by rw [hg]; exact (below_size bB) : w.heap.size ≤ gb107)); replace HB := aB HB hb; have NB101_107 := Aside0.mk ((by rw [hg]; exact Nat.ne_of_lt (blk_lt (g := gb101) (o := .cells #[.slice A0_0 l0_0.length c0_0, .slice (some ad106) l0_1.length c0_1] 52 (0, 0)) (aKw BK101)) : gb101 ≠ gb107)); have NB107_101 := Aside0.mk ((by rw [hg]; exact Nat.ne_of_gt (blk_lt (g := gb101) (o := .cells #[.slice A0_0 l0_0.length c0_0, .slice (some ad106) l0_1.length c0_1] 52 (0, 0)) (aKw BK101)) : gb107 ≠ gb101)); replace BK101 := aK BK101 hb; clear hb hbox hg; have hnb36 := NB107_101.out; have hnc36 := NB101_107.out; have hcz37_0 : w35.cell? ⟨gb107, 0, none⟩ = some (.int .i64 0) := (blk_cell BK107.out 0).trans rfl; have hcz37_1 : w35.cell? ⟨gb107, 1, none⟩ = some (.slice none 0 0) := (blk_cell BK107.out 1).trans rfl; have hfz37_0 := blk_frozen BK107.out 0; have hfz37_1 := blk_frozen BK107.out 1) | (go_at_call 64; (with_reducible refine (ferruleref12_Clean.calls k3 _ _ ((rd_T95 l0_1 x4_3).f1) t108 t109 _ ?side1 ?side2 A25.out).mono ?_); (case side1 => exact Kd.C_below HR106_1.out bB); (case side2 => exact HC106_1.out); rintro e w38 ⟨v110, rfl, ho0, hb⟩; have HO111 := aL ho0 HB; replace BK101 := Aside0.mk (blk_below (g := gb101) (o := .cells #[.slice A0_0 l0_0.length c0_0, .slice (some ad106) l0_1.length c0_1] 52 (0, 0)) (aKf BK101) hb); replace BK107 := Aside0.mk (blk_below (g := gb107) (o := .cells #[.int .i64 ((rd_T95 l0_1 x4_3).f0), .slice A106_1 ((rd_T95 l0_1 x4_3).f1).length c106_1] 95 (0, 0)) (by (with_reducible repeat (first | refine blk_drewN ?_ _ | refine blk_drew ?_ | refine blk_alloc ?_ _)); refine blk_put (cs := #[.int .i64 ((rd_T95 l0_1 x4_3).f0), .slice none 0 0]) ?_ 1 _ rfl; (with_reducible repeat (first | refine blk_drewN ?_ _ | refine blk_drew ?_ | refine blk_alloc ?_ _)); refine blk_put (cs := #[.int .i64 0, .slice none 0 0]) ?_ 0 _ rfl; (with_reducible repeat (first | refine blk_drewN ?_ _ | refine blk_drew ?_ | refine blk_alloc ?_ _)); exact BK107.out) hb); replace HB := aB HB hb; (try clear hb); (try clear hb2); (try clear hk); (try clear hi); (try clear ho0); have hcz39_0 : w38.cell? ⟨gb107, 0, none⟩ = some (.int .i64 ((rd_T95 l0_1 x4_3).f0)) := (blk_cell BK107.out 0).trans rfl; have hcz39_1 : w38.cell? ⟨gb107, 1, none⟩ = some (.slice A106_1 ((rd_T95 l0_1 x4_3).f1).length c106_1) := (blk_cell BK107.out 1).trans rfl; have hfz39_0 := blk_frozen BK107.out 0; have hfz39_1 := blk_frozen BK107.out 1)); try go_wp2_with (first | ((with_reducible refine gate_dst (N := 5) rfl ?_); (try (refine gate_guard (by rfl) ?_; dsimp only)); refine box_event ?hg (N := 5) ?hd (cs := #[.int .i64 0, .slice none 0 0]) (t := 95) ?hr ?_; (case hd => rfl); (case hg => rfl); (case hr => first | (go_simp; done) | (go_simp; rfl)); intro gb107 hg w35 hbox hb; have BK107 := Aside0.mk hbox; have GW107 := Aside0.mk ((by rw [hg]; exact (below_size bB) : w.heap.size ≤ gb107)); have GE107 := Aside0.mk ((by rw [hg]; exact (below_size bB) : w.heap.size ≤ gb107)); replace HB := aB HB hb; have NB101_107 := Aside0.mk ((by rw [hg]; exact Nat.ne_of_lt (blk_lt (g := gb101) (o := .cells #[.slice A0_0 l0_0.length c0_0, .slice (some ad106) l0_1.length c0_1] 52 (0, 0)) (aKw BK101)) : gb101 ≠ gb107)); have NB107_101 := Aside0.mk ((by rw [hg]; exact Nat.ne_of_gt (blk_lt (g := gb101) (o := .cells #[.slice A0_0 l0_0.length c0_0, .slice (some ad106) l0_1.length c0_1] 52 (0, 0)) (aKw BK101)) : gb107 ≠ gb101)); replace BK101 := aK BK101 hb; clear hb hbox hg; have hnb36 := NB107_101.out; have hnc36 := NB101_107.out; have hcz37_0 : w35.cell? ⟨gb107, 0, none⟩ = some (.int .i64 0) := (blk_cell BK107.out 0).trans rfl; have hcz37_1 : w35.cell? ⟨gb107, 1, none⟩ = some (.slice none 0 0) := (blk_cell BK107.out 1).trans rfl; have hfz37_0 := blk_frozen BK107.out 0; have hfz37_1 := blk_frozen BK107.out 1) | (go_at_call 64; (with_reducible refine (ferruleref12_Clean.calls k3 _ _ ((rd_T95 l0_1 x4_3).f1) t108 t109 _ ?side1 ?side2 A25.out).mono ?_); (case side1 => exact Kd.C_below HR106_1.out bB); (case side2 => exact HC106_1.out); rintro e w38 ⟨v110, rfl, ho0, hb⟩; have HO111 := aL ho0 HB; replace BK101 := Aside0.mk (blk_below (g := gb101) (o := .cells #[.slice A0_0 l0_0.length c0_0, .slice (some ad106) l0_1.length c0_1] 52 (0, 0)) (aKf BK101) hb); replace BK107 := Aside0.mk (blk_below (g := gb107) (o := .cells #[.int .i64 ((rd_T95 l0_1 x4_3).f0), .slice A106_1 ((rd_T95 l0_1 x4_3).f1).length c106_1] 95 (0, 0)) (by (with_reducible repeat (first | refine blk_drewN ?_ _ | refine blk_drew ?_ | refine blk_alloc ?_ _)); refine blk_put (cs := #[.int .i64 ((rd_T95 l0_1 x4_3).f0), .slice none 0 0]) ?_ 1 _ rfl; (with_reducible repeat (first | refine blk_drewN ?_ _ | refine blk_drew ?_ | refine blk_alloc ?_ _)); refine blk_put (cs := #[.int .i64 0, .slice none 0 0]) ?_ 0 _ rfl; (with_reducible repeat (first | refine blk_drewN ?_ _ | refine blk_drew ?_ | refine blk_alloc ?_ _)); exact BK107.out) hb); replace HB := aB HB hb; (try clear hb); (try clear hb2); (try clear hk); (try clear hi); (try clear ho0); have hcz39_0 : w38.cell? ⟨gb107, 0, none⟩ = some (.int .i64 ((rd_T95 l0_1 x4_3).f0)) := (blk_cell BK107.out 0).trans rfl; have hcz39_1 : w38.cell? ⟨gb107, 1, none⟩ = some (.slice A106_1 ((rd_T95 l0_1 x4_3).f1).length c106_1) := (blk_cell BK107.out 1).trans rfl; have hfz39_0 := blk_frozen BK107.out 0; have hfz39_1 := blk_frozen BK107.out 1)))
             go_ret
             exact ⟨by first | rfl | (simp [errW_none, errW_some] <;> rfl) | (simp [*, errW_none, errW_some] <;> rfl), bB⟩
            ·rw [if_neg c33] at H
             have c33b0 : decide (2 < ((rd_T95 l0_1 x4_3).f0)) = false := decide_eq_false c33
             clear c33
             by_cases c40 : (((rd_T95 l0_1 x4_3).f1).length : Int) > 4096
             ·rw [if_pos c40] at H
              have c40b0 : decide (4096 < (((rd_T95 l0_1 x4_3).f1).length : Int)) = true := decide_eq_true c40
              have c40b1 : decide (4096 < ((rd_T95 l0_1 x4_3).f1).length) = true := decide_eq_true (by omega)
              clear c40
              obtain rfl := Option.some.inj H
              have hcz41_0 : wr.cell? ⟨gb101, 0, none⟩ = some (.slice A0_0 l0_0.length c0_0) := (blk_cell BK101.out 0).trans rfl
              have hcz41_1 : wr.cell? ⟨gb101, 1, none⟩ = some (.slice A0_1 l0_1.length c0_1) := (blk_cell BK101.out 1).trans rfl
              have hfz41_0 := blk_frozen BK101.out 0
              have hfz41_1 := blk_frozen BK101.out 1
              have p106 : 0 ≤ (x4_3 : Int) := oD
              have q106 : x4_3 < (l0_1.length : Int) := oD
              obtain ⟨ad106, A106_1, c106_1, e106, hx106_0, hx106_1, hl106_1, hi106_1⟩ := at_T95 HR0_1.out x4_3 p106 q106
              cases e106
              replace hx106_0 := (HB.out.cell (World.block_lt_of_cell? w _ hx106_0)).trans hx106_0
              replace hx106_1 := (HB.out.cell (World.block_lt_of_cell? w _ hx106_1)).trans hx106_1
              have HR106_1 := Aside0.mk hi106_1
              have HC106_1 := Aside0.mk hl106_1
              clear hi106_1 hl106_1
              replace p106 := eq_true p106
              replace q106 := eq_true q106
              go_wp2_with (first | ((with_reducible refine gate_dst (N := 5) rfl ?_); (try (refine gate_guard (by rfl) ?_; dsimp only)); refine box_event ?hg (N := 5) ?hd (cs := #[.int .i64 0, .slice none 0 0]) (t := 95) ?hr ?_; (case hd => rfl); (case hg => rfl); (case hr => first | (go_simp; done) | (go_simp; rfl)); intro gb107 hg w42 hbox hb; have BK107 := Aside0.mk hbox; have GW107 := Aside0.mk ((by rw [hg]; exact (below_size bB) : w.heap.size ≤ gb107)); have GE107 := Aside0.mk ((by rw [hg]; exact (below_size bB) : w.heap.size ≤ gb107)); replace HB := aB HB hb; have NB101_107 := Aside0.mk ((by rw [hg]; exact Nat.ne_of_lt (blk_lt (g := gb101) (o := .cells #[.slice A0_0 l0_0.length c0_0, .slice (some ad106) l0_1.length c0_1] 52 (0, 0)) (aKw BK101)) : gb101 ≠ gb107)); have NB107_101 := Aside0.mk ((by rw [hg]; exact Nat.ne_of_gt (blk_lt (g := gb101) (o := .cells #[.slice A0_0 l0_0.length c0_0, .slice (some ad106) l0_1.length c0_1] 52 (0, 0)) (aKw BK101)) : gb107 ≠ gb101)); replace BK101 := aK BK101 hb; clear hb hbox hg; have hnb43 := NB107_101.out; have hnc43 := NB101_107.out; have hcz44_0 : w42.cell? ⟨gb107, 0, none⟩ = some (.int .i64 0) := (blk_cell BK107.out 0).trans rfl; have hcz44_1 : w42.cell? ⟨gb107, 1, none⟩ = some (.slice none 0 0) := (blk_cell BK107.out 1).trans rfl; have hfz44_0 := blk_frozen BK107.out 0; have hfz44_1 := blk_frozen BK107.out 1) | (go_at_call 64; (with_reducible refine (ferruleref12_Clean.calls k3 _ _ ((rd_T95 l0_1 x4_3).f1) t108 t109 _ ?side1 ?side2 A25.out).mono ?_); (case side1 => exact Kd.C_below HR106_1.out bB); (case side2 => exact HC106_1.out); rintro e w45 ⟨v110, rfl, ho0, hb⟩; have HO111 := aL ho0 HB; replace BK101 := Aside0.mk (blk_below (g := gb101) (o := .cells #[.slice A0_0 l0_0.length c0_0, .slice (some ad106) l0_1.length c0_1] 52 (0, 0)) (aKf BK101) hb); replace BK107 := Aside0.mk (blk_below (g := gb107) (o := .cells #[.int .i64 ((rd_T95 l0_1 x4_3).f0), .slice A106_1 ((rd_T95 l0_1 x4_3).f1).length c106_1] 95 (0, 0)) (by (with_reducible repeat (first | refine blk_drewN ?_ _ | refine blk_drew ?_ | refine blk_alloc ?_ _)); refine blk_put (cs := #[.int .i64 ((rd_T95 l0_1 x4_3).f0), .slice none 0 0]) ?_ 1 _ rfl; (with_reducible repeat (first | refine blk_drewN ?_ _ | refine blk_drew ?_ | refine blk_alloc ?_ _)); refine blk_put (cs := #[.int .i64 0, .slice none 0 0]) ?_ 0 _ rfl; (with_reducible repeat (first | refine blk_drewN ?_ _ | refine blk_drew ?_ | refine blk_alloc ?_ _)); exact BK107.out) hb); replace HB := aB HB hb; (try clear hb); (try clear hb2); (try clear hk); (try clear hi); (try clear ho0); have hcz46_0 : w45.cell? ⟨gb107, 0, none⟩ = some (.int .i64 ((rd_T95 l0_1 x4_3).f0)) := (blk_cell BK107.out 0).trans rfl; have hcz46_1 : w45.cell? ⟨gb107, 1, none⟩ = some (.slice A106_1 ((rd_T95 l0_1 x4_3).f1).length c106_1) := (blk_cell BK107.out 1).trans rfl; have hfz46_0 := blk_frozen BK107.out 0; have hfz46_1 := blk_frozen BK107.out 1))
              repeat (go_quiet (first | ((with_reducible refine gate_dst (N := 5) rfl ?_); (try (refine gate_guard (by rfl) ?_; dsimp only)); refine box_event ?hg (N := 5) ?hd (cs := #[.int .i64 0, .slice none 0 0]) (t := 95) ?hr ?_; (case hd => rfl); (case hg => rfl); (case hr => first | (go_simp; done) | (go_simp; rfl)); intro gb107 hg w42 hbox hb; have BK107 := Aside0.mk hbox; have GW107 := Aside0.mk ((by rw [hg]; exact (below_size bB) : w.heap.size ≤ gb107)); have GE107 := Aside0.mk ((by rw [hg]; exact (below_size bB) : w.heap.size ≤ gb107)); replace HB := aB HB hb; have NB101_107 := Aside0.mk ((by rw [hg]; exact Nat.ne_of_lt (blk_lt (g := gb101) (o := .cells #[.slice A0_0 l0_0.length c0_0, .slice (some ad106) l0_1.length c0_1] 52 (0, 0)) (aKw BK101)) : gb101 ≠ gb107)); have NB107_101 := Aside0.mk ((by rw [hg]; exact Nat.ne_of_gt (blk_lt (g := gb101) (o := .cells #[.slice A0_0 l0_0.length c0_0, .slice (some ad106) l0_1.length c0_1] 52 (0, 0)) (aKw BK101)) : gb107 ≠ gb101)); replace BK101 := aK BK101 hb; clear hb hbox hg; have hnb43 := NB107_101.out; have hnc43 := NB101_107.out; have hcz44_0 : w42.cell? ⟨gb107, 0, none⟩ = some (.int .i64 0) := (blk_cell BK107.out 0).trans rfl; have hcz44_1 : w42.cell? ⟨gb107, 1, none⟩ = some (.slice none 0 0) := (blk_cell BK107.out 1).trans rfl; have hfz44_0 := blk_frozen BK107.out 0; have hfz44_1 := blk_frozen BK107.out 1) | (go_at_call 64; (with_reducible refine (ferruleref12_Clean.calls k3 _ _ ((rd_T95 l0_1 x4_3).f1) t108 t109 _ ?side1 ?side2 A25.out).mono ?_); (case side1 => exact Kd.C_below HR106_1.out bB); (case side2 => exact HC106_1.out); rintro e w45 ⟨v110, rfl, ho0, hb⟩; have HO111 := aL ho0 HB; replace BK101 := Aside0.mk (blk_below (g := gb101) (o := .cells #[.slice A0_0 l0_0.length c0_0, .slice (some ad106) l0_1.length c0_1] 52 (0, 0)) (aKf BK101) hb); replace BK107 := Aside0.mk (blk_below (g := gb107) (o := .cells #[.int .i64 ((rd_T95 l0_1 x4_3).f0), .slice A106_1 ((rd_T95 l0_1 x4_3).f1).length c106_1] 95 (0, 0)) (by (with_reducible repeat (first | refine blk_drewN ?_ _ | refine blk_drew ?_ | refine blk_alloc ?_ _)); refine blk_put (cs := #[.int .i64 ((rd_T95 l0_1 x4_3).f0), .slice none 0 0]) ?_ 1 _ rfl; (with_reducible repeat (first | refine blk_drewN ?_ _ | refine blk_drew ?_ | refine blk_alloc ?_ _)); refine blk_put (cs := #[.int .i64 0, .slice none 0 0]) ?_ 0 _ rfl; (with_reducible repeat (first | refine blk_drewN ?_ _ | refine blk_drew ?_ | refine blk_alloc ?_ _)); exact BK107.out) hb); replace HB := aB HB hb; (try clear hb); (try clear hb2); (try clear hk); (try clear hi); (try clear ho0); have hcz46_0 : w45.cell? ⟨gb107, 0, none⟩ = some (.int .i64 ((rd_T95 l0_1 x4_3).f0)) := (blk_cell BK107.out 0).trans rfl; have hcz46_1 : w45.cell? ⟨gb107, 1, none⟩ = some (.slice A106_1 ((rd_T95 l0_1 x4_3).f1).length c106_1) := (blk_cell BK107.out 1).trans rfl; have hfz46_0 := blk_frozen BK107.out 0; have hfz46_1 := blk_frozen BK107.out 1)); try go_wp2_with (first | ((with_reducible refine gate_dst (N := 5) rfl ?_); (try (refine gate_guard (by rfl) ?_; dsimp only)); refine box_event ?hg (N := 5) ?hd (cs := #[.int .i64 0, .slice none 0 0]) (t := 95) ?hr ?_; (case hd => rfl); (case hg => rfl); (case hr => first | (go_simp; done) | (go_simp; rfl)); intro gb107 hg w42 hbox hb; have BK107 := Aside0.mk hbox; have GW107 := Aside0.mk ((by rw [hg]; exact (below_size bB) : w.heap.size ≤ gb107)); have GE107 := Aside0.mk ((by rw [hg]; exact (below_size bB) : w.heap.size ≤ gb107)); replace HB := aB HB hb; have NB101_107 := Aside0.mk ((by rw [hg]; exact Nat.ne_of_lt (blk_lt (g := gb101) (o := .cells #[.slice A0_0 l0_0.length c0_0, .slice (some ad106) l0_1.length c0_1] 52 (0, 0)) (aKw BK101)) : gb101 ≠ gb107)); have NB107_101 := Aside0.mk ((by rw [hg]; exact Nat.ne_of_gt (blk_lt (g := gb101) (o := .cells #[.slice A0_0 l0_0.length c0_0, .slice (some ad106) l0_1.length c0_1] 52 (0, 0)) (aKw BK101)) : gb107 ≠ gb101)); replace BK101 := aK BK101 hb; clear hb hbox hg; have hnb43 := NB107_101.out; have hnc43 := NB101_107.out; have hcz44_0 : w42.cell? ⟨gb107, 0, none⟩ = some (.int .i64 0) := (blk_cell BK107.out 0).trans rfl; have hcz44_1 : w42.cell? ⟨gb107, 1, none⟩ = some (.slice none 0 0) := (blk_cell BK107.out 1).trans rfl; have hfz44_0 := blk_frozen BK107.out 0; have hfz44_1 := blk_frozen BK107.out 1) | (go_at_call 64; (with_reducible refine (ferruleref12_Clean.calls k3 _ _ ((rd_T95 l0_1 x4_3).f1) t108 t109 _ ?side1 ?side2 A25.out).mono ?_); (case side1 => exact Kd.C_below HR106_1.out bB); (case side2 => exact HC106_1.out); rintro e w45 ⟨v110, rfl, ho0, hb⟩; have HO111 := aL ho0 HB; replace BK101 := Aside0.mk (blk_below (g := gb101) (o := .cells #[.slice A0_0 l0_0.length c0_0, .slice (some ad106) l0_1.length c0_1] 52 (0, 0)) (aKf BK101) hb); replace BK107 := Aside0.mk (blk_below (g := gb107) (o := .cells #[.int .i64 ((rd_T95 l0_1 x4_3).f0), .slice A106_1 ((rd_T95 l0_1 x4_3).f1).length c106_1] 95 (0, 0)) (by (with_reducible repeat (first | refine blk_drewN ?_ _ | refine blk_drew ?_ | refine blk_alloc ?_ _)); refine blk_put (cs := #[.int .i64 ((rd_T95 l0_1 x4_3).f0), .slice none 0 0]) ?_ 1 _ rfl; (with_reducible repeat (first | refine blk_drewN ?_ _ | refine blk_drew ?_ | refine blk_alloc ?_ _)); refine blk_put (cs := #[.int .i64 0, .slice none 0 0]) ?_ 0 _ rfl; (with_reducible repeat (first | refine blk_drewN ?_ _ | refine blk_drew ?_ | refine blk_alloc ?_ _)); exact BK107.out) hb); replace HB := aB HB hb; (try clear hb); (try clear hb2); (try clear hk); (try clear hi); (try clear ho0); have hcz46_0 : w45.cell? ⟨gb107, 0, none⟩ = some (.int .i64 ((rd_T95 l0_1 x4_3).f0)) := (blk_cell BK107.out 0).trans rfl; have hcz46_1 : w45.cell? ⟨gb107, 1, none⟩ = some (.slice A106_1 ((rd_T95 l0_1 x4_3).f1).length c106_1) := (blk_cell BK107.out 1).trans rfl; have hfz46_0 := blk_frozen BK107.out 0; have hfz46_1 := blk_frozen BK107.out 1)))
              go_ret
              exact ⟨by first | rfl | (simp [errW_none, errW_some] <;> rfl) | (simp [*, errW_none, errW_some] <;> rfl), bB⟩
             ·rw [if_neg c40] at H
              have c40b0 : decide (4096 < (((rd_T95 l0_1 x4_3).f1).length : Int)) = false := decide_eq_false c40
              have c40b1 : decide (4096 < ((rd_T95 l0_1 x4_3).f1).length) = false := decide_eq_false (by omega)
              clear c40
              by_cases c47 : t109 = true
              ·subst c47
               have H1 : (some false) = some r := by rw [if_pos rfl] at H; exact H
               clear H
               have H := H1
               clear H1
               obtain rfl := Option.some.inj H
               have hcz48_0 : wr.cell? ⟨gb101, 0, none⟩ = some (.slice A0_0 l0_0.length c0_0) := (blk_cell BK101.out 0).trans rfl
               have hcz48_1 : wr.cell? ⟨gb101, 1, none⟩ = some (.slice A0_1 l0_1.length c0_1) := (blk_cell BK101.out 1).trans rfl
               have hfz48_0 := blk_frozen BK101.out 0
               have hfz48_1 := blk_frozen BK101.out 1
               have p106 : 0 ≤ (x4_3 : Int) := oD
               have q106 : x4_3 < (l0_1.length : Int) := oD
               obtain ⟨ad106, A106_1, c106_1, e106, hx106_0, hx106_1, hl106_1, hi106_1⟩ := at_T95 HR0_1.out x4_3 p106 q106
               cases e106
               replace hx106_0 := (HB.out.cell (World.block_lt_of_cell? w _ hx106_0)).trans hx106_0
               replace hx106_1 := (HB.out.cell (World.block_lt_of_cell? w _ hx106_1)).trans hx106_1
               have HR106_1 := Aside0.mk hi106_1
               have HC106_1 := Aside0.mk hl106_1
               clear hi106_1 hl106_1
               replace p106 := eq_true p106
               replace q106 := eq_true q106
               go_wp2_with (first | ((with_reducible refine gate_dst (N := 5) rfl ?_); (try (refine gate_guard (by rfl) ?_; dsimp only)); refine box_event ?hg (N := 5) ?hd (cs := #[.int .i64 0, .slice none 0 0]) (t := 95) ?hr ?_; (case hd => rfl); (case hg => rfl); (case hr => first | (go_simp; done) | (go_simp; rfl)); intro gb107 hg w49 hbox hb; have BK107 := Aside0.mk hbox; have GW107 := Aside0.mk ((by rw [hg]; exact (below_size bB) : w.heap.size ≤ gb107)); have GE107 := Aside0.mk ((by rw [hg]; exact (below_size bB) : w.heap.size ≤ gb107)); replace HB := aB HB hb; have NB101_107 := Aside0.mk ((by rw [hg]; exact Nat.ne_of_lt (blk_lt (g := gb101) (o := .cells #[.slice A0_0 l0_0.length c0_0, .slice (some ad106) l0_1.length c0_1] 52 (0, 0)) (aKw BK101)) : gb101 ≠ gb107)); have NB107_101 := Aside0.mk ((by rw [hg]; exact Nat.ne_of_gt (blk_lt (g := gb101) (o := .cells #[.slice A0_0 l0_0.length c0_0, .slice (some ad106) l0_1.length c0_1] 52 (0, 0)) (aKw BK101)) : gb107 ≠ gb101)); replace BK101 := aK BK101 hb; clear hb hbox hg; have hnb50 := NB107_101.out; have hnc50 := NB101_107.out; have hcz51_0 : w49.cell? ⟨gb107, 0, none⟩ = some (.int .i64 0) := (blk_cell BK107.out 0).trans rfl; have hcz51_1 : w49.cell? ⟨gb107, 1, none⟩ = some (.slice none 0 0) := (blk_cell BK107.out 1).trans rfl; have hfz51_0 := blk_frozen BK107.out 0; have hfz51_1 := blk_frozen BK107.out 1) | (go_at_call 64; (with_reducible refine (ferruleref12_Clean.calls k3 _ _ ((rd_T95 l0_1 x4_3).f1) t108 true _ ?side1 ?side2 A25.out).mono ?_); (case side1 => exact Kd.C_below HR106_1.out bB); (case side2 => exact HC106_1.out); rintro e w52 ⟨v110, rfl, ho0, hb⟩; have HO111 := aL ho0 HB; replace BK101 := Aside0.mk (blk_below (g := gb101) (o := .cells #[.slice A0_0 l0_0.length c0_0, .slice (some ad106) l0_1.length c0_1] 52 (0, 0)) (aKf BK101) hb); replace BK107 := Aside0.mk (blk_below (g := gb107) (o := .cells #[.int .i64 ((rd_T95 l0_1 x4_3).f0), .slice A106_1 ((rd_T95 l0_1 x4_3).f1).length c106_1] 95 (0, 0)) (by (with_reducible repeat (first | refine blk_drewN ?_ _ | refine blk_drew ?_ | refine blk_alloc ?_ _)); refine blk_put (cs := #[.int .i64 ((rd_T95 l0_1 x4_3).f0), .slice none 0 0]) ?_ 1 _ rfl; (with_reducible repeat (first | refine blk_drewN ?_ _ | refine blk_drew ?_ | refine blk_alloc ?_ _)); refine blk_put (cs := #[.int .i64 0, .slice none 0 0]) ?_ 0 _ rfl; (with_reducible repeat (first | refine blk_drewN ?_ _ | refine blk_drew ?_ | refine blk_alloc ?_ _)); exact BK107.out) hb); replace HB := aB HB hb; (try clear hb); (try clear hb2); (try clear hk); (try clear hi); (try clear ho0); have hcz53_0 : w52.cell? ⟨gb107, 0, none⟩ = some (.int .i64 ((rd_T95 l0_1 x4_3).f0)) := (blk_cell BK107.out 0).trans rfl; have hcz53_1 : w52.cell? ⟨gb107, 1, none⟩ = some (.slice A106_1 ((rd_T95 l0_1 x4_3).f1).length c106_1) := (blk_cell BK107.out 1).trans rfl; have hfz53_0 := blk_frozen BK107.out 0; have hfz53_1 := blk_frozen BK107.out 1))
               repeat (go_quiet (first | ((with_reducible refine gate_dst (N := 5) rfl ?_); (try (refine gate_guard (by rfl) ?_; dsimp only)); refine box_event ?hg (N := 5) ?hd (cs := #[.int .i64 0, .slice none 0 0]) (t := 95) ?hr ?_; (case hd => rfl); (case hg => rfl); (case hr => first | (go_simp; done) | (go_simp; rfl)); intro gb107 hg w49 hbox hb; have BK107 := Aside0.mk hbox; have GW107 := Aside0.mk ((by rw [hg]; exact (below_size bB) : w.heap.size ≤ gb107)); have GE107 := Aside0.mk ((by rw [hg]; exact (below_size bB) : w.heap.size ≤ gb107)); replace HB := aB HB hb; have NB101_107 := Aside0.mk ((by rw [hg]; exact Nat.ne_of_lt (blk_lt (g := gb101) (o := .cells #[.slice A0_0 l0_0.length c0_0, .slice (some ad106) l0_1.length c0_1] 52 (0, 0)) (aKw BK101)) : gb101 ≠ gb107)); have NB107_101 := Aside0.mk ((by rw [hg]; exact Nat.ne_of_gt (blk_lt (g := gb101) (o := .cells #[.slice A0_0 l0_0.length c0_0, .slice (some ad106) l0_1.length c0_1] 52 (0, 0)) (aKw BK101)) : gb107 ≠ gb101)); replace BK101 := aK BK101 hb; clear hb hbox hg; have hnb50 := NB107_101.out; have hnc50 := NB101_107.out; have hcz51_0 : w49.cell? ⟨gb107, 0, none⟩ = some (.int .i64 0) := (blk_cell BK107.out 0).trans rfl; have hcz51_1 : w49.cell? ⟨gb107, 1, none⟩ = some (.slice none 0 0) := (blk_cell BK107.out 1).trans rfl; have hfz51_0 := blk_frozen BK107.out 0; have hfz51_1 := blk_frozen BK107.out 1) | (go_at_call 64; (with_reducible refine (ferruleref12_Clean.calls k3 _ _ ((rd_T95 l0_1 x4_3).f1) t108 true _ ?side1 ?side2 A25.out).mono ?_); (case side1 => exact Kd.C_below HR106_1.out bB); (case side2 => exact HC106_1.out); rintro e w52 ⟨v110, rfl, ho0, hb⟩; have HO111 := aL ho0 HB; replace BK101 := Aside0.mk (blk_below (g := gb101) (o := .cells #[.slice A0_0 l0_0.length c0_0, .slice (some ad106) l0_1.length c0_1] 52 (0, 0)) (aKf BK101) hb); replace BK107 := Aside0.mk (blk_below (g := gb107) (o := .cells #[.int .i64 ((rd_T95 l0_1 x4_3).f0), .slice A106_1 ((rd_T95 l0_1 x4_3).f1).length c106_1] 95 (0, 0)) (by (with_reducible repeat (first | refine blk_drewN ?_ _ | refine blk_drew ?_ | refine blk_alloc ?_ _)); refine blk_put (cs := #[.int .i64 ((rd_T95 l0_1 x4_3).f0), .slice none 0 0]) ?_ 1 _ rfl; (with_reducible repeat (first | refine blk_drewN ?_ _ | refine blk_drew ?_ | refine blk_alloc ?_ _)); refine blk_put (cs := #[.int .i64 0, .slice none 0 0]) ?_ 0 _ rfl; (with_reducible repeat (first | refine blk_drewN ?_ _ | refine blk_drew ?_ | refine blk_alloc ?_ _)); exact BK107.out) hb); replace HB := aB HB hb; (try clear hb); (try clear hb2); (try clear hk); (try clear hi); (try clear ho0); have hcz53_0 : w52.cell? ⟨gb107, 0, none⟩ = some (.int .i64 ((rd_T95 l0_1 x4_3).f0)) := (blk_cell BK107.out 0).trans rfl; have hcz53_1 : w52.cell? ⟨gb107, 1, none⟩ = some (.slice A106_1 ((rd_T95 l0_1 x4_3).f1).length c106_1) := (blk_cell BK107.out 1).trans rfl; have hfz53_0 := blk_frozen BK107.out 0; have hfz53_1 := blk_frozen BK107.out 1)); try go_wp2_with (first | ((with_reducible refine gate_dst (N := 5) rfl ?_); (try (refine gate_guard (by rfl) ?_; dsimp only)); refine box_event ?hg (N := 5) ?hd (cs := #[.int .i64 0, .slice none 0 0]) (t := 95) ?hr ?_; (case hd => rfl); (case hg => rfl); (case hr => first | (go_simp; done) | (go_simp; rfl)); intro gb107 hg w49 hbox hb; have BK107 := Aside0.mk hbox; have GW107 := Aside0.mk ((by rw [hg]; exact (below_size bB) : w.heap.size ≤ gb107)); have GE107 := Aside0.mk ((by rw [hg]; exact (below_size bB) : w.heap.size ≤ gb107)); replace HB := aB HB hb; have NB101_107 := Aside0.mk ((by rw [hg]; exact Nat.ne_of_lt (blk_lt (g := gb101) (o := .cells #[.slice A0_0 l0_0.length c0_0, .slice (some ad106) l0_1.length c0_1] 52 (0, 0)) (aKw BK101)) : gb101 ≠ gb107)); have NB107_101 := Aside0.mk ((by rw [hg]; exact Nat.ne_of_gt (blk_lt (g := gb101) (o := .cells #[.slice A0_0 l0_0.length c0_0, .slice (some ad106) l0_1.length c0_1] 52 (0, 0)) (aKw BK101)) : gb107 ≠ gb101)); replace BK101 := aK BK101 hb; clear hb hbox hg; have hnb50 := NB107_101.out; have hnc50 := NB101_107.out; have hcz51_0 : w49.cell? ⟨gb107, 0, none⟩ = some (.int .i64 0) := (blk_cell BK107.out 0).trans rfl; have hcz51_1 : w49.cell? ⟨gb107, 1, none⟩ = some (.slice none 0 0) := (blk_cell BK107.out 1).trans rfl; have hfz51_0 := blk_frozen BK107.out 0; have hfz51_1 := blk_frozen BK107.out 1) | (go_at_call 64; (with_reducible refine (ferruleref12_Clean.calls k3 _ _ ((rd_T95 l0_1 x4_3).f1) t108 true _ ?side1 ?side2 A25.out).mono ?_); (case side1 => exact Kd.C_below HR106_1.out bB); (case side2 => exact HC106_1.out); rintro e w52 ⟨v110, rfl, ho0, hb⟩; have HO111 := aL ho0 HB; replace BK101 := Aside0.mk (blk_below (g := gb101) (o := .cells #[.slice A0_0 l0_0.length c0_0, .slice (some ad106) l0_1.length c0_1] 52 (0, 0)) (aKf BK101) hb); replace BK107 := Aside0.mk (blk_below (g := gb107) (o := .cells #[.int .i64 ((rd_T95 l0_1 x4_3).f0), .slice A106_1 ((rd_T95 l0_1 x4_3).f1).length c106_1] 95 (0, 0)) (by (with_reducible repeat (first | refine blk_drewN ?_ _ | refine blk_drew ?_ | refine blk_alloc ?_ _)); refine blk_put (cs := #[.int .i64 ((rd_T95 l0_1 x4_3).f0), .slice none 0 0]) ?_ 1 _ rfl; (with_reducible repeat (first | refine blk_drewN ?_ _ | refine blk_drew ?_ | refine blk_alloc ?_ _)); refine blk_put (cs := #[.int .i64 0, .slice none 0 0]) ?_ 0 _ rfl; (with_reducible repeat (first | refine blk_drewN ?_ _ | refine blk_drew ?_ | refine blk_alloc ?_ _)); exact BK107.out) hb); replace HB := aB HB hb; (try clear hb); (try clear hb2); (try clear hk); (try clear hi); (try clear ho0); have hcz53_0 : w52.cell? ⟨gb107, 0, none⟩ = some (.int .i64 ((rd_T95 l0_1 x4_3).f0)) := (blk_cell BK107.out 0).trans rfl; have hcz53_1 : w52.cell? ⟨gb107, 1, none⟩ = some (.slice A106_1 ((rd_T95 l0_1 x4_3).f1).length c106_1) := (blk_cell BK107.out 1).trans rfl; have hfz53_0 := blk_frozen BK107.out 0; have hfz53_1 := blk_frozen BK107.out 1)))
               go_ret
               exact ⟨by first | rfl | (simp [errW_none, errW_some] <;> rfl) | (simp [*, errW_none, errW_some] <;> rfl), bB⟩
              ·replace c47 := Bool.eq_false_iff.mpr c47
               subst c47
               have H1 : ((ferruleref12_Same.f k3 t108 ((rd_T95 l0_1 x4_3).f1)).bind fun t112 => (if t112 = true then (ferruleref23_Good.l1 k3 (wrap64 (x4_3 + 1)) l0_0 l0_1) else (some false))) = some r := by rw [if_neg (show ¬ (false = true) by decide)] at H; exact H
               clear H
               have H := H1
               clear H1
               replace H := Option.bind_eq_some_iff.mp H
               obtain ⟨t112, A540, H⟩ := H
               replace H : (if t112 = true then (ferruleref23_Good.l1 k3 (wrap64 (x4_3 + 1)) l0_0 l0_1) else (some false)) = some r := H
               have A54 := Aside0.mk A540
               clear A540
               by_cases c55 : t112 = true
               ·subst c55
                have H1 : (ferruleref23_Good.l1 k3 (wrap64 (x4_3 + 1)) l0_0 l0_1) = some r := by rw [if_pos rfl] at H; exact H
                clear H
                have H := H1
                clear H1
                have H' := Aside0.mk H
                clear H
                have hcz56_0 : wr.cell? ⟨gb101, 0, none⟩ = some (.slice A0_0 l0_0.length c0_0) := (blk_cell BK101.out 0).trans rfl
                have hcz56_1 : wr.cell? ⟨gb101, 1, none⟩ = some (.slice A0_1 l0_1.length c0_1) := (blk_cell BK101.out 1).trans rfl
                have hfz56_0 := blk_frozen BK101.out 0
                have hfz56_1 := blk_frozen BK101.out 1
                have p106 : 0 ≤ (x4_3 : Int) := oD
                have q106 : x4_3 < (l0_1.length : Int) := oD
                obtain ⟨ad106, A106_1, c106_1, e106, hx106_0, hx106_1, hl106_1, hi106_1⟩ := at_T95 HR0_1.out x4_3 p106 q106
                cases e106
                replace hx106_0 := (HB.out.cell (World.block_lt_of_cell? w _ hx106_0)).trans hx106_0
                replace hx106_1 := (HB.out.cell (World.block_lt_of_cell? w _ hx106_1)).trans hx106_1
                have HR106_1 := Aside0.mk hi106_1
                have HC106_1 := Aside0.mk hl106_1
                clear hi106_1 hl106_1
                replace p106 := eq_true p106
                replace q106 := eq_true q106
                go_wp2_with (first | ((with_reducible refine gate_dst (N := 5) rfl ?_); (try (refine gate_guard (by rfl) ?_; dsimp only)); refine box_event ?hg (N := 5) ?hd (cs := #[.int .i64 0, .slice none 0 0]) (t := 95) ?hr ?_; (case hd => rfl); (case hg => rfl); (case hr => first | (go_simp; done) | (go_simp; rfl)); intro gb107 hg w57 hbox hb; have BK107 := Aside0.mk hbox; have GW107 := Aside0.mk ((by rw [hg]; exact (below_size bB) : w.heap.size ≤ gb107)); have GE107 := Aside0.mk ((by rw [hg]; exact (below_size bB) : w.heap.size ≤ gb107)); replace HB := aB HB hb; have NB101_107 := Aside0.mk ((by rw [hg]; exact Nat.ne_of_lt (blk_lt (g := gb101) (o := .cells #[.slice A0_0 l0_0.length c0_0, .slice (some ad106) l0_1.length c0_1] 52 (0, 0)) (aKw BK101)) : gb101 ≠ gb107)); have NB107_101 := Aside0.mk ((by rw [hg]; exact Nat.ne_of_gt (blk_lt (g := gb101) (o := .cells #[.slice A0_0 l0_0.length c0_0, .slice (some ad106) l0_1.length c0_1] 52 (0, 0)) (aKw BK101)) : gb107 ≠ gb101)); replace BK101 := aK BK101 hb; clear hb hbox hg; have hnb58 := NB107_101.out; have hnc58 := NB101_107.out; have hcz59_0 : w57.cell? ⟨gb107, 0, none⟩ = some (.int .i64 0) := (blk_cell BK107.out 0).trans rfl; have hcz59_1 : w57.cell? ⟨gb107, 1, none⟩ = some (.slice none 0 0) := (blk_cell BK107.out 1).trans rfl; have hfz59_0 := blk_frozen BK107.out 0; have hfz59_1 := blk_frozen BK107.out 1) | (go_at_call 64; (with_reducible refine (ferruleref12_Clean.calls k3 _ _ ((rd_T95 l0_1 x4_3).f1) t108 false _ ?side1 ?side2 A25.out).mono ?_); (case side1 => exact Kd.C_below HR106_1.out bB); (case side2 => exact HC106_1.out); rintro e w60 ⟨v110, rfl, ho0, hb⟩; have HO111 := aL ho0 HB; replace BK101 := Aside0.mk (blk_below (g := gb101) (o := .cells #[.slice A0_0 l0_0.length c0_0, .slice (some ad106) l0_1.length c0_1] 52 (0, 0)) (aKf BK101) hb); replace BK107 := Aside0.mk (blk_below (g := gb107) (o := .cells #[.int .i64 ((rd_T95 l0_1 x4_3).f0), .slice A106_1 ((rd_T95 l0_1 x4_3).f1).length c106_1] 95 (0, 0)) (by (with_reducible repeat (first | refine blk_drewN ?_ _ | refine blk_drew ?_ | refine blk_alloc ?_ _)); refine blk_put (cs := #[.int .i64 ((rd_T95 l0_1 x4_3).f0), .slice none 0 0]) ?_ 1 _ rfl; (with_reducible repeat (first | refine blk_drewN ?_ _ | refine blk_drew ?_ | refine blk_alloc ?_ _)); refine blk_put (cs := #[.int .i64 0, .slice none 0 0]) ?_ 0 _ rfl; (with_reducible repeat (first | refine blk_drewN ?_ _ | refine blk_drew ?_ | refine blk_alloc ?_ _)); exact BK107.out) hb); replace HB := aB HB hb; (try clear hb); (try clear hb2); (try clear hk); (try clear hi); (try clear ho0); have hcz61_0 : w60.cell? ⟨gb107, 0, none⟩ = some (.int .i64 ((rd_T95 l0_1 x4_3).f0)) := (blk_cell BK107.out 0).trans rfl; have hcz61_1 : w60.cell? ⟨gb107, 1, none⟩ = some (.slice A106_1 ((rd_T95 l0_1 x4_3).f1).length c106_1) := (blk_cell BK107.out 1).trans rfl; have hfz61_0 := blk_frozen BK107.out 0; have hfz61_1 := blk_frozen BK107.out 1; obtain ⟨Ao62, co62, eo62⟩ := Kd.R_slice HO111.out; subst eo62) | (go_at_call 44; (with_reducible refine (ferruleref12_Same.calls k3 _ _ t108 _ _ ((rd_T95 l0_1 x4_3).f1) true _ ?side1 ?side2 ?side3 ?side4 A54.out).mono ?_); (case side1 => exact sW (Kd.R_reads' HO111.out).2.2); (case side2 => exact (Kd.R_reads' HO111.out).2.1); (case side3 => exact sW (Kd.C_below HR106_1.out HB.out)); (case side4 => exact HC106_1.out); rintro e w' ⟨rfl, ⟨nd, rfl⟩⟩; (try first | exact ⟨rfl, _, World.drewN_drewN _ _ _⟩ | exact ⟨rfl, _, Eq.trans (World.drewN_drewN _ _ _) (congrArg (World.drewN _) (Nat.add_assoc _ _ _))⟩)))
                repeat (go_quiet (first | ((with_reducible refine gate_dst (N := 5) rfl ?_); (try (refine gate_guard (by rfl) ?_; dsimp only)); refine box_event ?hg (N := 5) ?hd (cs := #[.int .i64 0, .slice none 0 0]) (t := 95) ?hr ?_; (case hd => rfl); (case hg => rfl); (case hr => first | (go_simp; done) | (go_simp; rfl)); intro gb107 hg w57 hbox hb; have BK107 := Aside0.mk hbox; have GW107 := Aside0.mk ((by rw [hg]; exact (below_size bB) : w.heap.size ≤ gb107)); have GE107 := Aside0.mk ((by rw [hg]; exact (below_size bB) : w.heap.size ≤ gb107)); replace HB := aB HB hb; have NB101_107 := Aside0.mk ((by rw [hg]; exact Nat.ne_of_lt (blk_lt (g := gb101) (o := .cells #[.slice A0_0 l0_0.length c0_0, .slice (some ad106) l0_1.length c0_1] 52 (0, 0)) (aKw BK101)) : gb101 ≠ gb107)); have NB107_101 := Aside0.mk ((by rw [hg]; exact Nat.ne_of_gt (blk_lt (g := gb101) (o := .cells #[.slice A0_0 l0_0.length c0_0, .slice (some ad106) l0_1.length c0_1] 52 (0, 0)) (aKw BK101)) : gb107 ≠ gb101)); replace BK101 := aK BK101 hb; clear hb hbox hg; have hnb58 := NB107_101.out; have hnc58 := NB101_107.out; have hcz59_0 : w57.cell? ⟨gb107, 0, none⟩ = some (.int .i64 0) := (blk_cell BK107.out 0).trans rfl; have hcz59_1 : w57.cell? ⟨gb107, 1, none⟩ = some (.slice none 0 0) := (blk_cell BK107.out 1).trans rfl; have hfz59_0 := blk_frozen BK107.out 0; have hfz59_1 := blk_frozen BK107.out 1) | (go_at_call 64; (with_reducible refine (ferruleref12_Clean.calls k3 _ _ ((rd_T95 l0_1 x4_3).f1) t108 false _ ?side1 ?side2 A25.out).mono ?_); (case side1 => exact Kd.C_below HR106_1.out bB); (case side2 => exact HC106_1.out); rintro e w60 ⟨v110, rfl, ho0, hb⟩; have HO111 := aL ho0 HB; replace BK101 := Aside0.mk (blk_below (g := gb101) (o := .cells #[.slice A0_0 l0_0.length c0_0, .slice (some ad106) l0_1.length c0_1] 52 (0, 0)) (aKf BK101) hb); replace BK107 := Aside0.mk (blk_below (g := gb107) (o := .cells #[.int .i64 ((rd_T95 l0_1 x4_3).f0), .slice A106_1 ((rd_T95 l0_1 x4_3).f1).length c106_1] 95 (0, 0)) (by (with_reducible repeat (first | refine blk_drewN ?_ _ | refine blk_drew ?_ | refine blk_alloc ?_ _)); refine blk_put (cs := #[.int .i64 ((rd_T95 l0_1 x4_3).f0), .slice none 0 0]) ?_ 1 _ rfl; (with_reducible repeat (first | refine blk_drewN ?_ _ | refine blk_drew ?_ | refine blk_alloc ?_ _)); refine blk_put (cs := #[.int .i64 0, .slice none 0 0]) ?_ 0 _ rfl; (with_reducible repeat (first | refine blk_drewN ?_ _ | refine blk_drew ?_ | refine blk_alloc ?_ _)); exact BK107.out) hb); replace HB := aB HB hb; (try clear hb); (try clear hb2); (try clear hk); (try clear hi); (try clear ho0); have hcz61_0 : w60.cell? ⟨gb107, 0, none⟩ = some (.int .i64 ((rd_T95 l0_1 x4_3).f0)) := (blk_cell BK107.out 0).trans rfl; have hcz61_1 : w60.cell? ⟨gb107, 1, none⟩ = some (.slice A106_1 ((rd_T95 l0_1 x4_3).f1).length c106_1) := (blk_cell BK107.out 1).trans rfl; have hfz61_0 := blk_frozen BK107.out 0; have hfz61_1 := blk_frozen BK107.out 1; obtain ⟨Ao62, co62, eo62⟩ := Kd.R_slice HO111.out; subst eo62) | (go_at_call 44; (with_reducible refine (ferruleref12_Same.calls k3 _ _ t108 _ _ ((rd_T95 l0_1 x4_3).f1) true _ ?side1 ?side2 ?side3 ?side4 A54.out).mono ?_); (case side1 => exact sW (Kd.R_reads' HO111.out).2.2); (case side2 => exact (Kd.R_reads' HO111.out).2.1); (case side3 => exact sW (Kd.C_below HR106_1.out HB.out)); (case side4 => exact HC106_1.out); rintro e w' ⟨rfl, ⟨nd, rfl⟩⟩; (try first | exact ⟨rfl, _, World.drewN_drewN _ _ _⟩ | exact ⟨rfl, _, Eq.trans (World.drewN_drewN _ _ _) (congrArg (World.drewN _) (Nat.add_assoc _ _ _))⟩))); try go_wp2_with (first | ((with_reducible refine gate_dst (N := 5) rfl ?_); (try (refine gate_guard (by rfl) ?_; dsimp only)); refine box_event ?hg (N := 5) ?hd (cs := #[.int .i64 0, .slice none 0 0]) (t := 95) ?hr ?_; (case hd => rfl); (case hg => rfl); (case hr => first | (go_simp; done) | (go_simp; rfl)); intro gb107 hg w57 hbox hb; have BK107 := Aside0.mk hbox; have GW107 := Aside0.mk ((by rw [hg]; exact (below_size bB) : w.heap.size ≤ gb107)); have GE107 := Aside0.mk ((by rw [hg]; exact (below_size bB) : w.heap.size ≤ gb107)); replace HB := aB HB hb; have NB101_107 := Aside0.mk ((by rw [hg]; exact Nat.ne_of_lt (blk_lt (g := gb101) (o := .cells #[.slice A0_0 l0_0.length c0_0, .slice (some ad106) l0_1.length c0_1] 52 (0, 0)) (aKw BK101)) : gb101 ≠ gb107)); have NB107_101 := Aside0.mk ((by rw [hg]; exact Nat.ne_of_gt (blk_lt (g := gb101) (o := .cells #[.slice A0_0 l0_0.length c0_0, .slice (some ad106) l0_1.length c0_1] 52 (0, 0)) (aKw BK101)) : gb107 ≠ gb101)); replace BK101 := aK BK101 hb; clear hb hbox hg; have hnb58 := NB107_101.out; have hnc58 := NB101_107.out; have hcz59_0 : w57.cell? ⟨gb107, 0, none⟩ = some (.int .i64 0) := (blk_cell BK107.out 0).trans rfl; have hcz59_1 : w57.cell? ⟨gb107, 1, none⟩ = some (.slice none 0 0) := (blk_cell BK107.out 1).trans rfl; have hfz59_0 := blk_frozen BK107.out 0; have hfz59_1 := blk_frozen BK107.out 1) | (go_at_call 64; (with_reducible refine (ferruleref12_Clean.calls k3 _ _ ((rd_T95 l0_1 x4_3).f1) t108 false _ ?side1 ?side2 A25.out).mono ?_); (case side1 => exact Kd.C_below HR106_1.out bB); (case side2 => exact HC106_1.out); rintro e w60 ⟨v110, rfl, ho0, hb⟩; have HO111 := aL ho0 HB; replace BK101 := Aside0.mk (blk_below (g := gb101) (o := .cells #[.slice A0_0 l0_0.length c0_0, .slice (some ad106) l0_1.length c0_1] 52 (0, 0)) (aKf BK101) hb); replace BK107 := Aside0.mk (blk_below (g := gb107) (o := .cells #[.int .i64 ((rd_T95 l0_1 x4_3).f0), .slice A106_1 ((rd_T95 l0_1 x4_3).f1).length c106_1] 95 (0, 0)) (by (with_reducible repeat (first | refine blk_drewN ?_ _ | refine blk_drew ?_ | refine blk_alloc ?_ _)); refine blk_put (cs := #[.int .i64 ((rd_T95 l0_1 x4_3).f0), .slice none 0 0]) ?_ 1 _ rfl; (with_reducible repeat (first | refine blk_drewN ?_ _ | refine blk_drew ?_ | refine blk_alloc ?_ _)); refine blk_put (cs := #[.int .i64 0, .slice none 0 0]) ?_ 0 _ rfl; (with_reducible repeat (first | refine blk_drewN ?_ _ | refine blk_drew ?_ | refine blk_alloc ?_ _)); exact BK107.out) hb); replace HB := aB HB hb; (try clear hb); (try clear hb2); (try clear hk); (try clear hi); (try clear ho0); have hcz61_0 : w60.cell? ⟨gb107, 0, none⟩ = some (.int .i64 ((rd_T95 l0_1 x4_3).f0)) := (blk_cell BK107.out 0).trans rfl; have hcz61_1 : w60.cell? ⟨gb107, 1, none⟩ = some (.slice A106_1 ((rd_T95 l0_1 x4_3).f1).length c106_1) := (blk_cell BK107.out 1).trans rfl; have hfz61_0 := blk_frozen BK107.out 0; have hfz61_1 := blk_frozen BK107.out 1; obtain ⟨Ao62, co62, eo62⟩ := Kd.R_slice HO111.out; subst eo62) | (go_at_call 44; (with_reducible refine (ferruleref12_Same.calls k3 _ _ t108 _ _ ((rd_T95 l0_1 x4_3).f1) true _ ?side1 ?side2 ?side3 ?side4 A54.out).mono ?_); (case side1 => exact sW (Kd.R_reads' HO111.out).2.2); (case side2 => exact (Kd.R_reads' HO111.out).2.1); (case side3 => exact sW (Kd.C_below HR106_1.out HB.out)); (case side4 => exact HC106_1.out); rintro e w' ⟨rfl, ⟨nd, rfl⟩⟩; (try first | exact ⟨rfl, _, World.drewN_drewN _ _ _⟩ | exact ⟨rfl, _, Eq.trans (World.drewN_drewN _ _ _) (congrArg (World.drewN _) (Nat.add_assoc _ _ _))⟩))))
                go_roundg k3
                case measure => have := HJ1.out; have := HK2.out; have := HK3.out; omega
                case rel => exact ⟨(wrap64 (x4_3 + 1)), bS, H', ⟨by have := HJ1.out; have := HK2.out; have := HK3.out; omega⟩, ⟨aKw BK101⟩, ⟨bB⟩⟩
               ·replace c55 := Bool.eq_false_iff.mpr c55
                subst c55
                have H1 : (some false) = some r := by rw [if_neg (show ¬ (false = true) by decide)] at H; exact H
                clear H
                have H := H1
                clear H1
                obtain rfl := Option.some.inj H
                have hcz63_0 : wr.cell? ⟨gb101, 0, none⟩ = some (.slice A0_0 l0_0.length c0_0) := (blk_cell BK101.out 0).trans rfl
                have hcz63_1 : wr.cell? ⟨gb101, 1, none⟩ = some (.slice A0_1 l0_1.length c0_1) := (blk_cell BK101.out 1).trans rfl
                have hfz63_0 := blk_frozen BK101.out 0
                have hfz63_1 := blk_frozen BK101.out 1
                have p106 : 0 ≤ (x4_3 : Int) := oD
                have q106 : x4_3 < (l0_1.length : Int) := oD
                obtain ⟨ad106, A106_1, c106_1, e106, hx106_0, hx106_1, hl106_1, hi106_1⟩ := at_T95 HR0_1.out x4_3 p106 q106
                cases e106
                replace hx106_0 := (HB.out.cell (World.block_lt_of_cell? w _ hx106_0)).trans hx106_0
                replace hx106_1 := (HB.out.cell (World.block_lt_of_cell? w _ hx106_1)).trans hx106_1
                have HR106_1 := Aside0.mk hi106_1
                have HC106_1 := Aside0.mk hl106_1
                clear hi106_1 hl106_1
                replace p106 := eq_true p106
                replace q106 := eq_true q106
                go_wp2_with (first | ((with_reducible refine gate_dst (N := 5) rfl ?_); (try (refine gate_guard (by rfl) ?_; dsimp only)); refine box_event ?hg (N := 5) ?hd (cs := #[.int .i64 0, .slice none 0 0]) (t := 95) ?hr ?_; (case hd => rfl); (case hg => rfl); (case hr => first | (go_simp; done) | (go_simp; rfl)); intro gb107 hg w64 hbox hb; have BK107 := Aside0.mk hbox; have GW107 := Aside0.mk ((by rw [hg]; exact (below_size bB) : w.heap.size ≤ gb107)); have GE107 := Aside0.mk ((by rw [hg]; exact (below_size bB) : w.heap.size ≤ gb107)); replace HB := aB HB hb; have NB101_107 := Aside0.mk ((by rw [hg]; exact Nat.ne_of_lt (blk_lt (g := gb101) (o := .cells #[.slice A0_0 l0_0.length c0_0, .slice (some ad106) l0_1.length c0_1] 52 (0, 0)) (aKw BK101)) : gb101 ≠ gb107)); have NB107_101 := Aside0.mk ((by rw [hg]; exact Nat.ne_of_gt (blk_lt (g := gb101) (o := .cells #[.slice A0_0 l0_0.length c0_0, .slice (some ad106) l0_1.length c0_1] 52 (0, 0)) (aKw BK101)) : gb107 ≠ gb101)); replace BK101 := aK BK101 hb; clear hb hbox hg; have hnb65 := NB107_101.out; have hnc65 := NB101_107.out; have hcz66_0 : w64.cell? ⟨gb107, 0, none⟩ = some (.int .i64 0) := (blk_cell BK107.out 0).trans rfl; have hcz66_1 : w64.cell? ⟨gb107, 1, none⟩ = some (.slice none 0 0) := (blk_cell BK107.out 1).trans rfl; have hfz66_0 := blk_frozen BK107.out 0; have hfz66_1 := blk_frozen BK107.out 1) | (go_at_call 64; (with_reducible refine (ferruleref12_Clean.calls k3 _ _ ((rd_T95 l0_1 x4_3).f1) t108 false _ ?side1 ?side2 A25.out).mono ?_); (case side1 => exact Kd.C_below HR106_1.out bB); (case side2 => exact HC106_1.out); rintro e w67 ⟨v110, rfl, ho0, hb⟩; have HO111 := aL ho0 HB; replace BK101 := Aside0.mk (blk_below (g := gb101) (o := .cells #[.slice A0_0 l0_0.length c0_0, .slice (some ad106) l0_1.length c0_1] 52 (0, 0)) (aKf BK101) hb); replace BK107 := Aside0.mk (blk_below (g := gb107) (o := .cells #[.int .i64 ((rd_T95 l0_1 x4_3).f0), .slice A106_1 ((rd_T95 l0_1 x4_3).f1).length c106_1] 95 (0, 0)) (by (with_reducible repeat (first | refine blk_drewN ?_ _ | refine blk_drew ?_ | refine blk_alloc ?_ _)); refine blk_put (cs := #[.int .i64 ((rd_T95 l0_1 x4_3).f0), .slice none 0 0]) ?_ 1 _ rfl; (with_reducible repeat (first | refine blk_drewN ?_ _ | refine blk_drew ?_ | refine blk_alloc ?_ _)); refine blk_put (cs := #[.int .i64 0, .slice none 0 0]) ?_ 0 _ rfl; (with_reducible repeat (first | refine blk_drewN ?_ _ | refine blk_drew ?_ | refine blk_alloc ?_ _)); exact BK107.out) hb); replace HB := aB HB hb; (try clear hb); (try clear hb2); (try clear hk); (try clear hi); (try clear ho0); have hcz68_0 : w67.cell? ⟨gb107, 0, none⟩ = some (.int .i64 ((rd_T95 l0_1 x4_3).f0)) := (blk_cell BK107.out 0).trans rfl; have hcz68_1 : w67.cell? ⟨gb107, 1, none⟩ = some (.slice A106_1 ((rd_T95 l0_1 x4_3).f1).length c106_1) := (blk_cell BK107.out 1).trans rfl; have hfz68_0 := blk_frozen BK107.out 0; have hfz68_1 := blk_frozen BK107.out 1; obtain ⟨Ao69, co69, eo69⟩ := Kd.R_slice HO111.out; subst eo69) | (go_at_call 44; (with_reducible refine (ferruleref12_Same.calls k3 _ _ t108 _ _ ((rd_T95 l0_1 x4_3).f1) false _ ?side1 ?side2 ?side3 ?side4 A54.out).mono ?_); (case side1 => exact sW (Kd.R_reads' HO111.out).2.2); (case side2 => exact (Kd.R_reads' HO111.out).2.1); (case side3 => exact sW (Kd.C_below HR106_1.out HB.out)); (case side4 => exact HC106_1.out); rintro e w' ⟨rfl, ⟨nd, rfl⟩⟩; (try first | exact ⟨rfl, _, World.drewN_drewN _ _ _⟩ | exact ⟨rfl, _, Eq.trans (World.drewN_drewN _ _ _) (congrArg (World.drewN _) (Nat.add_assoc _ _ _))⟩)))
                repeat (go_quiet (first | ((with_reducible refine gate_dst (N := 5) rfl ?_); (try (refine gate_guard (by rfl) ?_; dsimp only)); refine box_event ?hg (N := 5) ?hd (cs := #[.int .i64 0, .slice none 0 0]) (t := 95) ?hr ?_; (case hd => rfl); (case hg => rfl); (case hr => first | (go_simp; done) | (go_simp; rfl)); intro gb107 hg w64 hbox hb; have BK107 := Aside0.mk hbox; have GW107 := Aside0.mk ((by rw [hg]; exact (below_size bB) : w.heap.size ≤ gb107)); have GE107 := Aside0.mk ((by rw [hg]; exact (below_size bB) : w.heap.size ≤ gb107)); replace HB := aB HB hb; have NB101_107 := Aside0.mk ((by rw [hg]; exact Nat.ne_of_lt (blk_lt (g := gb101) (o := .cells #[.slice A0_0 l0_0.length c0_0, .slice (some ad106) l0_1.length c0_1] 52 (0, 0)) (aKw BK101)) : gb101 ≠ gb107)); have NB107_101 := Aside0.mk ((by rw [hg]; exact Nat.ne_of_gt (blk_lt (g := gb101) (o := .cells #[.slice A0_0 l0_0.length c0_0, .slice (some ad106) l0_1.length c0_1] 52 (0, 0)) (aKw BK101)) : gb107 ≠ gb101)); replace BK101 := aK BK101 hb; clear hb hbox hg; have hnb65 := NB107_101.out; have hnc65 := NB101_107.out; have hcz66_0 : w64.cell? ⟨gb107, 0, none⟩ = some (.int .i64 0) := (blk_cell BK107.out 0).trans rfl; have hcz66_1 : w64.cell? ⟨gb107, 1, none⟩ = some (.slice none 0 0) := (blk_cell BK107.out 1).trans rfl; have hfz66_0 := blk_frozen BK107.out 0; have hfz66_1 := blk_frozen BK107.out 1) | (go_at_call 64; (with_reducible refine (ferruleref12_Clean.calls k3 _ _ ((rd_T95 l0_1 x4_3).f1) t108 false _ ?side1 ?side2 A25.out).mono ?_); (case side1 => exact Kd.C_below HR106_1.out bB); (case side2 => exact HC106_1.out); rintro e w67 ⟨v110, rfl, ho0, hb⟩; have HO111 := aL ho0 HB; replace BK101 := Aside0.mk (blk_below (g := gb101) (o := .cells #[.slice A0_0 l0_0.length c0_0, .slice (some ad106) l0_1.length c0_1] 52 (0, 0)) (aKf BK101) hb); replace BK107 := Aside0.mk (blk_below (g := gb107) (o := .cells #[.int .i64 ((rd_T95 l0_1 x4_3).f0), .slice A106_1 ((rd_T95 l0_1 x4_3).f1).length c106_1] 95 (0, 0)) (by (with_reducible repeat (first | refine blk_drewN ?_ _ | refine blk_drew ?_ | refine blk_alloc ?_ _)); refine blk_put (cs := #[.int .i64 ((rd_T95 l0_1 x4_3).f0), .slice none 0 0]) ?_ 1 _ rfl; (with_reducible repeat (first | refine blk_drewN ?_ _ | refine blk_drew ?_ | refine blk_alloc ?_ _)); refine blk_put (cs := #[.int .i64 0, .slice none 0 0]) ?_ 0 _ rfl; (with_reducible repeat (first | refine blk_drewN ?_ _ | refine blk_drew ?_ | refine blk_alloc ?_ _)); exact BK107.out) hb); replace HB := aB HB hb; (try clear hb); (try clear hb2); (try clear hk); (try clear hi); (try clear ho0); have hcz68_0 : w67.cell? ⟨gb107, 0, none⟩ = some (.int .i64 ((rd_T95 l0_1 x4_3).f0)) := (blk_cell BK107.out 0).trans rfl; have hcz68_1 : w67.cell? ⟨gb107, 1, none⟩ = some (.slice A106_1 ((rd_T95 l0_1 x4_3).f1).length c106_1) := (blk_cell BK107.out 1).trans rfl; have hfz68_0 := blk_frozen BK107.out 0; have hfz68_1 := blk_frozen BK107.out 1; obtain ⟨Ao69, co69, eo69⟩ := Kd.R_slice HO111.out; subst eo69) | (go_at_call 44; (with_reducible refine (ferruleref12_Same.calls k3 _ _ t108 _ _ ((rd_T95 l0_1 x4_3).f1) false _ ?side1 ?side2 ?side3 ?side4 A54.out).mono ?_); (case side1 => exact sW (Kd.R_reads' HO111.out).2.2); (case side2 => exact (Kd.R_reads' HO111.out).2.1); (case side3 => exact sW (Kd.C_below HR106_1.out HB.out)); (case side4 => exact HC106_1.out); rintro e w' ⟨rfl, ⟨nd, rfl⟩⟩; (try first | exact ⟨rfl, _, World.drewN_drewN _ _ _⟩ | exact ⟨rfl, _, Eq.trans (World.drewN_drewN _ _ _) (congrArg (World.drewN _) (Nat.add_assoc _ _ _))⟩))); try go_wp2_with (first | ((with_reducible refine gate_dst (N := 5) rfl ?_); (try (refine gate_guard (by rfl) ?_; dsimp only)); refine box_event ?hg (N := 5) ?hd (cs := #[.int .i64 0, .slice none 0 0]) (t := 95) ?hr ?_; (case hd => rfl); (case hg => rfl); (case hr => first | (go_simp; done) | (go_simp; rfl)); intro gb107 hg w64 hbox hb; have BK107 := Aside0.mk hbox; have GW107 := Aside0.mk ((by rw [hg]; exact (below_size bB) : w.heap.size ≤ gb107)); have GE107 := Aside0.mk ((by rw [hg]; exact (below_size bB) : w.heap.size ≤ gb107)); replace HB := aB HB hb; have NB101_107 := Aside0.mk ((by rw [hg]; exact Nat.ne_of_lt (blk_lt (g := gb101) (o := .cells #[.slice A0_0 l0_0.length c0_0, .slice (some ad106) l0_1.length c0_1] 52 (0, 0)) (aKw BK101)) : gb101 ≠ gb107)); have NB107_101 := Aside0.mk ((by rw [hg]; exact Nat.ne_of_gt (blk_lt (g := gb101) (o := .cells #[.slice A0_0 l0_0.length c0_0, .slice (some ad106) l0_1.length c0_1] 52 (0, 0)) (aKw BK101)) : gb107 ≠ gb101)); replace BK101 := aK BK101 hb; clear hb hbox hg; have hnb65 := NB107_101.out; have hnc65 := NB101_107.out; have hcz66_0 : w64.cell? ⟨gb107, 0, none⟩ = some (.int .i64 0) := (blk_cell BK107.out 0).trans rfl; have hcz66_1 : w64.cell? ⟨gb107, 1, none⟩ = some (.slice none 0 0) := (blk_cell BK107.out 1).trans rfl; have hfz66_0 := blk_frozen BK107.out 0; have hfz66_1 := blk_frozen BK107.out 1) | (go_at_call 64; (with_reducible refine (ferruleref12_Clean.calls k3 _ _ ((rd_T95 l0_1 x4_3).f1) t108 false _ ?side1 ?side2 A25.out).mono ?_); (case side1 => exact Kd.C_below HR106_1.out bB); (case side2 => exact HC106_1.out); rintro e w67 ⟨v110, rfl, ho0, hb⟩; have HO111 := aL ho0 HB; replace BK101 := Aside0.mk (blk_below (g := gb101) (o := .cells #[.slice A0_0 l0_0.length c0_0, .slice (some ad106) l0_1.length c0_1] 52 (0, 0)) (aKf BK101) hb); replace BK107 := Aside0.mk (blk_below (g := gb107) (o := .cells #[.int .i64 ((rd_T95 l0_1 x4_3).f0), .slice A106_1 ((rd_T95 l0_1 x4_3).f1).length c106_1] 95 (0, 0)) (by (with_reducible repeat (first | refine blk_drewN ?_ _ | refine blk_drew ?_ | refine blk_alloc ?_ _)); refine blk_put (cs := #[.int .i64 ((rd_T95 l0_1 x4_3).f0), .slice none 0 0]) ?_ 1 _ rfl; (with_reducible repeat (first | refine blk_drewN ?_ _ | refine blk_drew ?_ | refine blk_alloc ?_ _)); refine blk_put (cs := #[.int .i64 0, .slice none 0 0]) ?_ 0 _ rfl; (with_reducible repeat (first | refine blk_drewN ?_ _ | refine blk_drew ?_ | refine blk_alloc ?_ _)); exact BK107.out) hb); replace HB := aB HB hb; (try clear hb); (try clear hb2); (try clear hk); (try clear hi); (try clear ho0); have hcz68_0 : w67.cell? ⟨gb107, 0, none⟩ = some (.int .i64 ((rd_T95 l0_1 x4_3).f0)) := (blk_cell BK107.out 0).trans rfl; have hcz68_1 : w67.cell? ⟨gb107, 1, none⟩ = some (.slice A106_1 ((rd_T95 l0_1 x4_3).f1).length c106_1) := (blk_cell BK107.out 1).trans rfl; have hfz68_0 := blk_frozen BK107.out 0; have hfz68_1 := blk_frozen BK107.out 1; obtain ⟨Ao69, co69, eo69⟩ := Kd.R_slice HO111.out; subst eo69) | (go_at_call 44; (with_reducible refine (ferruleref12_Same.calls k3 _ _ t108 _ _ ((rd_T95 l0_1 x4_3).f1) false _ ?side1 ?side2 ?side3 ?side4 A54.out).mono ?_); (case side1 => exact sW (Kd.R_reads' HO111.out).2.2); (case side2 => exact (Kd.R_reads' HO111.out).2.1); (case side3 => exact sW (Kd.C_below HR106_1.out HB.out)); (case side4 => exact HC106_1.out); rintro e w' ⟨rfl, ⟨nd, rfl⟩⟩; (try first | exact ⟨rfl, _, World.drewN_drewN _ _ _⟩ | exact ⟨rfl, _, Eq.trans (World.drewN_drewN _ _ _) (congrArg (World.drewN _) (Nat.add_assoc _ _ _))⟩))))
                go_ret
                exact ⟨by first | rfl | (simp [errW_none, errW_some] <;> rfl) | (simp [*, errW_none, errW_some] <;> rfl), bB⟩
          ·rw [if_neg c24] at H
           exact absurd H (by simp)
         ·rw [if_neg c23] at H
          have c23b0 : decide (x4_3 < (l0_1.length : Int)) = false := decide_eq_false c23
          clear c23
          obtain rfl := Option.some.inj H
          have hcz70_0 : wr.cell? ⟨gb101, 0, none⟩ = some (.slice A0_0 l0_0.length c0_0) := (blk_cell BK101.out 0).trans rfl
          have hcz70_1 : wr.cell? ⟨gb101, 1, none⟩ = some (.slice A0_1 l0_1.length c0_1) := (blk_cell BK101.out 1).trans rfl
          have hfz70_0 := blk_frozen BK101.out 0
          have hfz70_1 := blk_frozen BK101.out 1
          go_wp2
          repeat (go_quiet (fail); try go_wp2)
          go_ret
          exact ⟨by first | rfl | (simp [errW_none, errW_some] <;> rfl) | (simp [*, errW_none, errW_some] <;> rfl), bB⟩

end Go.Proofs.Ytcebjhbphcoboaa.C
