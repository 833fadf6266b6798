-- Written by a program of this session (wip/xp), out of the translation. Not trusted: Lean checks it.
import Derived.Test.YtcebjhbphcoboaaC0
import Derived.Test.YtcebjhbphcoboaaCi61x62
-- shrunk
namespace Go.Proofs.Ytcebjhbphcoboaa.C
open Go.RowKit Go.Proofs.YtcebjhbphcoboaaW.PrintWords Go.Proofs.YtcebjhbphcoboaaW.PrintLast Go.Proofs.YtcebjhbphcoboaaW.PrintMore
attribute [local go_sem] Lab.str_gtr Lab.str_leq Lab.str_geq max2_int min2_int max_two min_two max_three min_three max_four min_four   -- for this text's walks alone
set_option linter.unusedVariables false
set_option linter.unusedSimpArgs false

/-! ### cert_Good: function 28 -/
def cert_Good.l0 : Nat → Int → List Int → Int → Int → List Int → List (S95) → Option (Bool)
 | 0, _, _, _, _, _, _ => none
 | k + 1, x3, x7, x8, x9, x102000, x102001 => if x9 < x8 then (if 0 ≤ x9 then (if x9 < (x7.length : Int) then (if (rd x7 x9) ≤ x3 then (some false) else (if (rd x7 x9) > 1048575 then (some false) else (cert_Good.l0 k (rd x7 x9) x7 x8 (wrap64 (x9 + 1)) x102000 x102001))) else (none)) else (none)) else (if (x102000.length : Int) ≤ 65536 then (if (x102001.length : Int) ≤ 1048576 then ((slices_ContainsFunc_api_Step_api_Step__of62.f k x102001).bind fun t103 => (some (!t103))) else (some false)) else (some false))
def cert_Good.f (k : Nat) (l0_0 : List Int) (l0_1 : List (S95)) : Option (Bool) := cert_Good.l0 k (-1) l0_0 (l0_0.length : Int) 0 l0_0 l0_1
theorem cert_Good.mono_l : ∀ k, (∀ y0 y1 y2 y3 y4 y5, LeO (cert_Good.l0 k y0 y1 y2 y3 y4 y5) (cert_Good.l0 (k + 1) y0 y1 y2 y3 y4 y5))
 | 0 => fun _ _ _ _ _ _ r h => by simp [cert_Good.l0] at h
 | k + 1 => by
  have ih0 := cert_Good.mono_l k
  ·intro y0 y1 y2 y3 y4 y5
   unfold cert_Good.l0
   repeat' first
   | (with_reducible exact ih0 _ _ _ _ _ _)
   | (with_reducible exact slices_ContainsFunc_api_Step_api_Step__of62.mono _ _)
   | (with_reducible exact LeO.refl _)
   | (with_reducible exact LeO.none _)
   | (with_reducible refine LeO.ite ?_ ?_)
   | (with_reducible refine LeO.bind ?_ (fun _ => ?_))
   | exact ih0 _ _ _ _ _ _
   | exact slices_ContainsFunc_api_Step_api_Step__of62.mono _ _
   | exact LeO.none _
   | refine LeO.ite ?_ ?_
   | refine LeO.bind ?_ (fun _ => ?_)
theorem cert_Good.mono : ∀ a0 a1 k, LeO (cert_Good.f k a0 a1) (cert_Good.f (k + 1) a0 a1) := by
 intro a0 a1 k
 have ih0 := cert_Good.mono_l k
 unfold cert_Good.f
 repeat' first
   | (with_reducible exact ih0 _ _ _ _ _ _)
   | (with_reducible exact slices_ContainsFunc_api_Step_api_Step__of62.mono _ _)
   | (with_reducible exact LeO.refl _)
   | (with_reducible exact LeO.none _)
   | (with_reducible refine LeO.ite ?_ ?_)
   | (with_reducible refine LeO.bind ?_ (fun _ => ?_))
   | exact ih0 _ _ _ _ _ _
   | exact slices_ContainsFunc_api_Step_api_Step__of62.mono _ _
   | exact LeO.none _
   | refine LeO.ite ?_ ?_
   | refine LeO.bind ?_ (fun _ => ?_)
set_option maxHeartbeats 8000000 in
set_option maxRecDepth 100000 in
theorem cert_Good.calls (k : Nat) (A0_0 : Option Addr) (c0_0 : Nat) (l0_0 : List Int) (A0_1 : Option Addr) (c0_1 : Nat) (l0_1 : List (S95)) (r : Bool) (w : World) (hr0_0 : Kd.C (Kd.int .i64) w A0_0 l0_0.length l0_0) (hc0_0 : l0_0.length ≤ c0_0) (hr0_1 : Kd.C k95 w A0_1 l0_1.length l0_1) (hc0_1 : l0_1.length ≤ c0_1) (h : cert_Good.f k l0_0 l0_1 = some r) :
  Calls Try.prog 28 #[.agg #[.slice A0_0 l0_0.length c0_0, .slice A0_1 l0_1.length c0_1]] w fun e w' => e = .returned (.bool r) ∧ Below w.heap.size w w' := by
 have hu52 := Try.underlying52
 have HR0_0 := Aside0.mk hr0_0
 have HC0_0 := Aside0.mk hc0_0
 clear hr0_0 hc0_0
 have HR0_1 := Aside0.mk hr0_1
 have HC0_1 := Aside0.mk hc0_1
 clear hr0_1 hc0_1
 have HB := Aside0.mk (Below.refl w.heap.size w)
 have H : (cert_Good.l0 k (-1) l0_0 (l0_0.length : Int) 0 l0_0 l0_1) = some r := h
 clear h
 have H' := Aside0.mk H
 clear H
 go_enter Try.func28, Try.ntmps28
 go_wp2_with (first | ((with_reducible refine gate_dst (N := 1) rfl ?_); (try (refine gate_guard (by rfl) ?_; dsimp only)); refine box_event ?hg (N := 1) ?hd (cs := #[.slice A0_0 l0_0.length c0_0, .slice A0_1 l0_1.length c0_1]) (t := 52) ?hr ?_; (case hd => rfl); (case hg => rfl); (case hr => first | (go_simp; done) | (go_simp; rfl)); intro gb101 hg w2 hbox hb; have BK101 := Aside0.mk hbox; have GW101 := Aside0.mk ((by rw [hg]; exact (below_size bB) : w.heap.size ≤ gb101)); have GE101 := Aside0.mk ((by rw [hg]; exact (below_size bB) : w.heap.size ≤ gb101)); replace HB := aB HB hb; clear hb hbox hg; have hcz3_0 : w2.cell? ⟨gb101, 0, none⟩ = some (.slice A0_0 l0_0.length c0_0) := (blk_cell BK101.out 0).trans rfl; have hcz3_1 : w2.cell? ⟨gb101, 1, none⟩ = some (.slice A0_1 l0_1.length c0_1) := (blk_cell BK101.out 1).trans rfl; have hfz3_0 := blk_frozen BK101.out 0; have hfz3_1 := blk_frozen BK101.out 1))
 go_loopg [3, 9] k (fun kq v3 v9 w' => ∃ (x3_1 : Int) (x9_1 : Int), v3 = .int .i64 x3_1 ∧ v9 = .int .i64 x9_1 ∧ Aside0 (cert_Good.l0 kq x3_1 l0_0 (l0_0.length : Int) x9_1 l0_0 l0_1 = some r) ∧ Aside0 (kq ≤ k) ∧ Aside0 (w'.heap[gb101]? = some (.cells #[(.slice A0_0 l0_0.length c0_0), (.slice A0_1 l0_1.length c0_1)] 52 (0, 0))) ∧ Aside0 (Below w.heap.size w w'))
 case atStart => exact ⟨((-1)), (0), bS, bS, H', ⟨Nat.le_refl _⟩, ⟨aKw BK101⟩, ⟨bB⟩⟩
 case round =>
  clear H'
  try clear c2
  try clear p2
  try clear hcz3_0
  try clear hcz3_1
  try clear hfz3_0
  try clear hfz3_1
  obtain ⟨x3_1, x9_1, rfl, rfl, HA, HK1, BK101, HB⟩ := hrel
  cases gk with
  | zero => exact absurd HA.out (by simp [cert_Good.l0])
  | succ k1 =>
   have H := HA.out
   clear HA
   simp only [cert_Good.l0] at H
   by_cases c4 : x9_1 < (l0_0.length : Int)
   ·rw [if_pos c4] at H
    have c4b0 : decide (x9_1 < (l0_0.length : Int)) = true := decide_eq_true c4
    clear c4
    by_cases c5 : 0 ≤ x9_1
    ·rw [if_pos c5] at H
     have c5b0 : decide (0 ≤ x9_1) = true := decide_eq_true c5
     clear c5
     by_cases c6 : x9_1 < (l0_0.length : Int)
     ·rw [if_pos c6] at H
      have c6b0 : decide (x9_1 < (l0_0.length : Int)) = true := decide_eq_true c6
      clear c6
      by_cases c7 : (rd l0_0 x9_1) ≤ x3_1
      ·rw [if_pos c7] at H
       have c7b0 : decide ((rd l0_0 x9_1) ≤ x3_1) = true := decide_eq_true c7
       clear c7
       obtain rfl := Option.some.inj H
       have p102 : 0 ≤ (x9_1 : Int) := oD
       have q102 : x9_1 < (l0_0.length : Int) := oD
       obtain ⟨ad102, e102, hx102_0⟩ := Kd.at_int HR0_0.out x9_1 p102 q102
       cases e102
       replace hx102_0 := (HB.out.cell (World.block_lt_of_cell? w _ hx102_0)).trans hx102_0
       replace p102 := eq_true p102
       replace q102 := eq_true q102
       go_wp2
       go_ret
       exact ⟨by first | rfl | (simp [errW_none, errW_some] <;> rfl) | (simp [*, errW_none, errW_some] <;> rfl), bB⟩
      ·rw [if_neg c7] at H
       have c7b0 : decide ((rd l0_0 x9_1) ≤ x3_1) = false := decide_eq_false c7
       clear c7
       by_cases c8 : (rd l0_0 x9_1) > 1048575
       ·rw [if_pos c8] at H
        have c8b0 : decide (1048575 < (rd l0_0 x9_1)) = true := decide_eq_true c8
        clear c8
        obtain rfl := Option.some.inj H
        have p102 : 0 ≤ (x9_1 : Int) := oD
        have q102 : x9_1 < (l0_0.length : Int) := oD
        obtain ⟨ad102, e102, hx102_0⟩ := Kd.at_int HR0_0.out x9_1 p102 q102
        cases e102
        replace hx102_0 := (HB.out.cell (World.block_lt_of_cell? w _ hx102_0)).trans hx102_0
        replace p102 := eq_true p102
        replace q102 := eq_true q102
        go_wp2
        go_ret
        exact ⟨by first | rfl | (simp [errW_none, errW_some] <;> rfl) | (simp [*, errW_none, errW_some] <;> rfl), bB⟩
       ·rw [if_neg c8] at H
        have c8b0 : decide (1048575 < (rd l0_0 x9_1)) = false := decide_eq_false c8
        clear c8
        have H' := Aside0.mk H
        clear H
        have p102 : 0 ≤ (x9_1 : Int) := oD
        have q102 : x9_1 < (l0_0.length : Int) := oD
        obtain ⟨ad102, e102, hx102_0⟩ := Kd.at_int HR0_0.out x9_1 p102 q102
        cases e102
        replace hx102_0 := (HB.out.cell (World.block_lt_of_cell? w _ hx102_0)).trans hx102_0
        replace p102 := eq_true p102
        replace q102 := eq_true q102
        go_wp2
        go_roundg k1
        case measure => have := HK1.out; omega
        case rel => exact ⟨(rd l0_0 x9_1), (wrap64 (x9_1 + 1)), bS, bS, H', ⟨by have := HK1.out; omega⟩, ⟨aKw BK101⟩, ⟨bB⟩⟩
     ·rw [if_neg c6] at H
      exact absurd H (by simp)
    ·rw [if_neg c5] at H
     exact absurd H (by simp)
   ·rw [if_neg c4] at H
    have c4b0 : decide (x9_1 < (l0_0.length : Int)) = false := decide_eq_false c4
    clear c4
    by_cases c9 : (l0_0.length : Int) ≤ 65536
    ·rw [if_pos c9] at H
     have c9b0 : decide ((l0_0.length : Int) ≤ 65536) = true := decide_eq_true c9
     have c9b1 : decide (l0_0.length ≤ 65536) = true := decide_eq_true (by omega)
     clear c9
     by_cases c10 : (l0_1.length : Int) ≤ 1048576
     ·rw [if_pos c10] at H
      have c10b0 : decide ((l0_1.length : Int) ≤ 1048576) = true := decide_eq_true c10
      have c10b1 : decide (l0_1.length ≤ 1048576) = true := decide_eq_true (by omega)
      clear c10
      replace H := Option.bind_eq_some_iff.mp H
      obtain ⟨t103, A110, H⟩ := H
      replace H : (some (!t103)) = some r := H
      have A11 := Aside0.mk A110
      clear A110
      obtain rfl := Option.some.inj H
      have hcz12_0 : wr.cell? ⟨gb101, 0, none⟩ = some (.slice A0_0 l0_0.length c0_0) := (blk_cell BK101.out 0).trans rfl
      have hcz12_1 : wr.cell? ⟨gb101, 1, none⟩ = some (.slice A0_1 l0_1.length c0_1) := (blk_cell BK101.out 1).trans rfl
      have hfz12_0 := blk_frozen BK101.out 0
      have hfz12_1 := blk_frozen BK101.out 1
      go_wp2_with (first | (go_at_call 61; (with_reducible refine (slices_ContainsFunc_api_Step_api_Step__of62.calls k1 _ _ l0_1  t103 _ ?side1 ?side2 A11.out).mono ?_); (case side1 => exact sW (Kd.C_below HR0_1.out HB.out)); (case side2 => exact HC0_1.out); rintro e w13 ⟨rfl, hb⟩; replace BK101 := aK BK101 hb; replace HB := aB HB hb; (try clear hb); (try clear hb2); (try clear hk); (try clear hi)))
      go_ret
      exact ⟨by first | rfl | (simp [errW_none, errW_some] <;> rfl) | (simp [*, errW_none, errW_some] <;> rfl), bB⟩
     ·rw [if_neg c10] at H
      have c10b0 : decide ((l0_1.length : Int) ≤ 1048576) = false := decide_eq_false c10
      have c10b1 : decide (l0_1.length ≤ 1048576) = false := decide_eq_false (by omega)
      clear c10
      obtain rfl := Option.some.inj H
      have hcz14_0 : wr.cell? ⟨gb101, 0, none⟩ = some (.slice A0_0 l0_0.length c0_0) := (blk_cell BK101.out 0).trans rfl
      have hcz14_1 : wr.cell? ⟨gb101, 1, none⟩ = some (.slice A0_1 l0_1.length c0_1) := (blk_cell BK101.out 1).trans rfl
      have hfz14_0 := blk_frozen BK101.out 0
      have hfz14_1 := blk_frozen BK101.out 1
      go_wp2
      go_ret
      exact ⟨by first | rfl | (simp [errW_none, errW_some] <;> rfl) | (simp [*, errW_none, errW_some] <;> rfl), bB⟩
    ·rw [if_neg c9] at H
     have c9b0 : decide ((l0_0.length : Int) ≤ 65536) = false := decide_eq_false c9
     have c9b1 : decide (l0_0.length ≤ 65536) = false := decide_eq_false (by omega)
     clear c9
     obtain rfl := Option.some.inj H
     have hcz15_0 : wr.cell? ⟨gb101, 0, none⟩ = some (.slice A0_0 l0_0.length c0_0) := (blk_cell BK101.out 0).trans rfl
     have hcz15_1 : wr.cell? ⟨gb101, 1, none⟩ = some (.slice A0_1 l0_1.length c0_1) := (blk_cell BK101.out 1).trans rfl
     have hfz15_0 := blk_frozen BK101.out 0
     have hfz15_1 := blk_frozen BK101.out 1
     go_wp2
     go_ret
     exact ⟨by first | rfl | (simp [errW_none, errW_some] <;> rfl) | (simp [*, errW_none, errW_some] <;> rfl), bB⟩

end Go.Proofs.Ytcebjhbphcoboaa.C
