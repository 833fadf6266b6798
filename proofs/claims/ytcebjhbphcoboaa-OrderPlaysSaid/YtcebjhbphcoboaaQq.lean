/- What the laws on ranks try first (ferrulelaw15.awake). A walk by hand. -/
import Derived.Test.YtcebjhbphcoboaaQp
import Derived.Test.YtcebjhbphcoboaaQo
import Derived.Test.YtcebjhbphcoboaaQQk
import Derived.Test.YtcebjhbphcoboaaXm
namespace Go.Proofs.Ytcebjhbphcoboaa.Ato
open Go Go.RowKit Go.Proofs.Ytcebjhbphcoboaa.X Go.Proofs.Ytcebjhbphcoboaa.Hlp Go.Proofs.YtcebjhbphcoboaaW.PrintWords Go.Proofs.YtcebjhbphcoboaaW.PrintLast Go.Proofs.YtcebjhbphcoboaaW.PrintMore Go.Proofs.Ytcebjhbphcoboaa.Aid Go.Proofs.Ytcebjhbphcoboaa.Clean12
attribute [local go_sem] max2_int min2_int max_two min_two
set_option linter.unusedVariables false
set_option linter.unusedSimpArgs false
theorem szs3 : Szs [3] := ⟨by decide, by decide, by decide⟩
theorem aw_ok1 : litOk [3] (-2) = true := by decide
theorem aw_ok2 : litOk [3] 3 = true := by decide
theorem aw_al1 : alw [3] (litA [3] (-2)).f1 (asM [3] [] (-2)) ≠ [] := by decide
theorem aw_al2 : alw [3] (litA [3] 3).f1 (asM [3] [-2] 3) ≠ [] := by decide
theorem aw_p : alwP [3] [-2, 3] 0 = [1] := by decide
theorem aw_sort : ([2, -3, 5] : List Int).mergeSort slices_SortFunc_int_int__of115.le = [2, -3, 5] := by
  simp [List.mergeSort, List.MergeSort.Internal.splitInTwo, slices_SortFunc_int_int__of115.le, ltOf, slices_SortFunc_int_int__of115.cf, slices_SortFunc_int_int__of115.cmpI, clause_abs.p]
theorem aw_clean : Clause12.cleanP [2, -3, 5] = ([2, -3, 5], false) := by
  have h : Clause12.sortP [2, -3, 5] = [2, -3, 5] := aw_sort
  have hD : Clause12.cleanD [2, -3, 5] = [2, -3, 5] := by
    unfold Clause12.cleanD
    rw [h]
    decide
  unfold Clause12.cleanP
  rw [hD]
  decide
theorem aw_neg : negL [-2, 3, -5] = [2, -3, 5] := by
  unfold negL
  rw [show ([-2, 3, -5] : List Int).map (fun x => -x) = [2, -3, 5] from by decide, aw_clean]
theorem aw_ex : explainP [3] [-2, 3] 5 = ([2, -3, 5], true) := by
  unfold explainP
  rw [if_neg (by decide), if_pos (by decide), show expl [3] (litA [3] 5).f1 1 (exM [3] [-2, 3] 5) = [-2, 3, -5] from by decide, aw_neg]
theorem aw_same : ferruleref12_Same.f 40 [2, -3, 5] [2, -3, 5] = some true := by kernel_rfl
theorem aw_same_calls (p7 : Option Addr) (c7 : Nat) (w7 : World) (hC7 : Kd.C (Kd.int .i64) w7 p7 ([2, -3, 5] : List Int).length [2, -3, 5]) (hc7 : ([2, -3, 5] : List Int).length ≤ c7) :
    Calls Try.prog 44 #[.slice p7 3 c7, .slice (some ⟨w7.heap.size, 0, none⟩) 3 3] (w7.alloc (.cells #[.int .i64 2, .int .i64 (-3), .int .i64 5] 3)) fun e w' => e = .returned (.bool true) ∧ Drawn0 (w7.alloc (.cells #[.int .i64 2, .int .i64 (-3), .int .i64 5] 3)) w' :=
  ferruleref12_Same.calls 40 p7 c7 [2, -3, 5] (some ⟨w7.heap.size, 0, none⟩) 3 [2, -3, 5] true (w7.alloc (.cells #[.int .i64 2, .int .i64 (-3), .int .i64 5] 3)) (Kd.C_alloc hC7 _) hc7 (new_ints [2, -3, 5] 3 w7 (by decide)) (by decide) aw_same
set_option maxHeartbeats 4000000 in
set_option maxRecDepth 100000 in
theorem awake15_calls (w : World) : Calls Try.prog 33 #[] w fun e w' => e = .returned (.bool true) ∧ Below w.heap.size w w' := by
  have hB0 : Below w.heap.size w (w.alloc (.cells #[.int .i64 3] 3)) := (Below.refl _ _).alloc (Nat.le_refl _) _
  have hm : Calls Try.prog 40 #[.slice (some ⟨w.heap.size, 0, none⟩) 1 1] (w.alloc (.cells #[.int .i64 3] 3)) _ := made (some ⟨w.heap.size, 0, none⟩) 1 [3] (w.alloc (.cells #[.int .i64 3] 3)) (new_ints [3] 3 w (by decide)) (by decide) (by decide) (by decide) (by decide)
  have A1 : ∀ {W0 b0 g W base gs lv}, SO W0 b0 g [3] W base gs lv [] → Calls Try.prog 42 #[.pointer (some ⟨gs, 0, none⟩), .int .i64 (-2)] W _ := fun h => assert_ok h (-2) szs3 (by decide) (fun y hy => by cases hy) aw_ok1 (by decide) (by decide) aw_al1
  have A2 : ∀ {W0 b0 g W base gs lv}, SO W0 b0 g [3] W base gs lv [-2] → Calls Try.prog 42 #[.pointer (some ⟨gs, 0, none⟩), .int .i64 3] W _ := fun h => assert_ok h 3 szs3 (by decide) (by unfold In64; decide) aw_ok2 (by decide) (by decide) aw_al2
  have A3 : ∀ {W0 b0 g W base gs lv}, SO W0 b0 g [3] W base gs lv [-2, 3] → Calls Try.prog 46 #[.pointer (some ⟨gs, 0, none⟩), .int .i64 0] W _ := fun h => alwP_calls h 0 szs3 (by decide) (by unfold In64; decide)
  have A4 : ∀ {W0 b0 g W base gs lv}, SO W0 b0 g [3] W base gs lv [-2, 3] → Calls Try.prog 49 #[.pointer (some ⟨gs, 0, none⟩), .int .i64 5] W _ := fun h => explain_calls h 5 (by decide) szs3 (by decide) (by unfold In64; decide)
  rw [aw_p] at A3
  rw [aw_ex] at A4
  dsimp only at A4
  go_enter Try.func33, Try.ntmps33
  go_wp2_with (first
    | (go_at_call 40; with_reducible refine hm.mono ?_; rintro e w1 ⟨g, rfl, hT, hB1⟩; have hBw1 := hB0.trans (hB1.mono hB0.size))
    | (go_at_call 39; with_reducible refine (newS_calls hT).mono ?_; rintro e w2 ⟨gs, rfl, hS2, hB2⟩; have hBw2 := hBw1.trans (hB2.mono hBw1.size))
    | (go_at_call 39; with_reducible refine (new_nil _).mono ?_; rintro e w3 ⟨rfl, hB3⟩; have hBw3 := hBw2.trans (hB3.mono hBw2.size); have hS3 := hS2.below hB3)
    | (go_at_call 42; with_reducible refine (A1 hS3).mono ?_; rintro e w4 ⟨lv4, rfl, hS4, hB4, hK4, hO4⟩; have hBw4 := hBw3.trans (hB4.mono hBw1.size))
    | (go_at_call 42; with_reducible refine (A2 hS4).mono ?_; rintro e w5 ⟨lv5, rfl, hS5, hB5, hK5, hO5⟩; have hBw5 := hBw4.trans (hB5.mono hBw1.size))
    | (go_at_call 46; with_reducible refine (A3 hS5).mono ?_; rintro e w6 ⟨v6, rfl, hown6, hB6⟩; have hBw6 := hBw5.trans (hB6.mono hBw5.size); have hS6 := hS5.below hB6; obtain ⟨p6, c6, rfl⟩ := Hlp.own_slice hown6; obtain ⟨r6, rfl⟩ := addr_of hown6 (by decide); have k6 := row_cell hown6 0 (.int .i64 1) rfl)
    | (go_at_call 49; with_reducible refine (A4 hS6).mono ?_; rintro e w7 ⟨v7, rfl, hown7, hB7⟩; have hBw7 := hBw6.trans (hB7.mono hBw6.size); have k7 := cell_below' k6 hB7; obtain ⟨p7, c7, e7, hc7, hC7⟩ := C_of_ints hown7; subst e7; have hsm := aw_same_calls p7 c7 w7 hC7 hc7)
    | (go_at_call 44; with_reducible refine hsm.mono ?_; rintro e w8 ⟨rfl, hD8⟩))
  go_ret
  exact ⟨rfl, (hBw7.alloc hBw7.size _).trans (hD8.below.mono (hBw7.alloc hBw7.size _).size)⟩
end Go.Proofs.Ytcebjhbphcoboaa.Ato
