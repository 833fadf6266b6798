/- What the laws on atoms try first (ferrulelaw13.awake). A walk by hand. -/
import Derived.Test.YtohgjbkiemnfnaaAtp
import Derived.Test.YtohgjbkiemnfnaaXn54
namespace Go.Proofs.Ytohgjbkiemnfnaa.Ato
open Go Go.RowKit Go.Proofs.Ytohgjbkiemnfnaa.X Go.Proofs.Ytohgjbkiemnfnaa.Hlp Go.Proofs.YtohgjbkiemnfnaaW.PrintWords Go.Proofs.YtohgjbkiemnfnaaW.PrintLast Go.Proofs.YtohgjbkiemnfnaaW.PrintMore Go.Proofs.Ytohgjbkiemnfnaa.Aid
attribute [local go_sem] max2_int min2_int max_two min_two
set_option linter.unusedVariables false
set_option linter.unusedSimpArgs false
theorem own_of_R {w : World} {base : Nat} {ok : Nat → Prop} {v : Value} {l : List Int} (h : Kd.R (Kd.int .i64) 3 w base ok v l) : w.ownsRow base 3 1 v l.length (ints l) := by
  obtain ⟨h0, inner, ho, hr⟩ := h
  obtain rfl := Kd.reps_encs hr
  exact ho
theorem new_ints (xs : List Int) (t : Nat) (W : World) (hl : xs.length ≤ 9223372036854775807) : (Kd.int .i64).C (W.alloc (.cells (ints xs).toArray t)) (some ⟨W.heap.size, 0, none⟩) xs.length xs := by
  refine ⟨rfl, hl, fun _ => ⟨_, rfl, fun j p hj => ⟨[.int .i64 p], rfl, rfl, fun i u hu => ?_⟩⟩⟩
  cases i with
  | succ i => simp at hu
  | zero =>
    obtain rfl : Value.int .i64 p = u := by simpa using hu
    have hn := heap_alloc_new W (.cells (ints xs).toArray t)
    show (W.alloc (.cells (ints xs).toArray t)).cell? ((⟨W.heap.size, 0, none⟩ : Addr).add (j * 1 + 0)) = _
    rw [show j * 1 + 0 = j by omega, show (⟨W.heap.size, 0, none⟩ : Addr).add j = ⟨W.heap.size, 0 + j, none⟩ from by unfold Addr.add; split <;> simp_all]
    simp only [World.cell?, hn]
    simp [ints, hj]
/-- A table is made. -/
theorem made (A : Option Addr) (c : Nat) (l : List Int) (w : World) (hr : Kd.C (Kd.int .i64) w A l.length l) (hc : l.length ≤ c) (hl : l.length ≤ 4096) (hn : ∀ n ∈ l, 0 ≤ n ∧ n ≤ 16777216) (ht : tot l ≤ 16777216) :
    Calls Try.prog 16 #[.slice A l.length c] w fun e w' => ∃ g, e = .returned (.pointer (some ⟨g, 0, none⟩)) ∧ AT w' w.heap.size g l ∧ Below w.heap.size w w' := by
  refine new_calls A c l w hr hc hl hn ht ((slices_Clone_int_int.calls A c l l w hr hc ?_).mono fun e w' ⟨v, he, hR, hB⟩ => ⟨v, he, own_of_R hR, hB⟩)
  unfold slices_Clone_int_int.f
  rw [if_pos (by omega)]
set_option maxRecDepth 100000 in
theorem vars_calls {w : World} {base g : Nat} {l : List Int} (h : AT w base g l) : Calls Try.prog 20 #[.pointer (some ⟨g, 0, none⟩)] w fun e w' => e = .returned (.int .i64 (tot l)) ∧ w' = w := by
  obtain ⟨bv, sv, h1, h2, h3, h4⟩ := h
  have hc := cell_far h1 2 _ rfl
  go_enter Try.func20, Try.ntmps20
  go_wp2
  go_ret
  exact ⟨rfl, rfl⟩
set_option maxHeartbeats 1000000 in
set_option maxRecDepth 100000 in
theorem awake_calls (w : World) : Calls Try.prog 14 #[] w fun e w' => e = .returned (.bool true) ∧ Below w.heap.size w w' := by
  have hB0 : Below w.heap.size w (w.alloc (.cells #[.int .i64 2, .int .i64 0] 3)) := (Below.refl _ _).alloc (Nat.le_refl _) _
  have hm : Calls Try.prog 16 #[.slice (some ⟨w.heap.size, 0, none⟩) 2 2] (w.alloc (.cells #[.int .i64 2, .int .i64 0] 3)) _ := made (some ⟨w.heap.size, 0, none⟩) 2 [2, 0] (w.alloc (.cells #[.int .i64 2, .int .i64 0] 3)) (new_ints [2, 0] 3 w (by decide)) (by decide) (by decide) (by decide) (by decide)
  have e0 : beg [2, 0] 1 = 5 := by decide
  have e1 : beg [2, 0] 0 + 1 + (([2, 0] : List Int).getD 0 0 - 1) + ((1 : Nat) : Int) = 4 := by decide
  have e2 : tot [2, 0] = 5 := by decide
  have H0 : ∀ W base g, AT W base g [2, 0] → Calls Try.prog 22 #[.pointer (some ⟨g, 0, none⟩), .agg #[.int .i64 0, .int .i64 1, .int .i64 0]] W fun e w' => e = .returned (.int .i64 5) ∧ Below W.heap.size W w' := fun W base g h => by
    have := var0 h 1 (by decide)
    rw [e0] at this
    exact this
  have H1 : ∀ W base g, AT W base g [2, 0] → Calls Try.prog 22 #[.pointer (some ⟨g, 0, none⟩), .agg #[.int .i64 2, .int .i64 0, .int .i64 1]] W fun e w' => e = .returned (.int .i64 4) ∧ Below W.heap.size W w' := fun W base g h => by
    have := var2 h 0 (by decide) 1 (by decide) (by decide) (by decide) (by decide)
    rw [e1] at this
    exact this
  go_enter Try.func14, Try.ntmps14
  go_wp2_with (first
    | (go_at_call 16; with_reducible refine hm.mono ?_; rintro e w1 ⟨g, rfl, hT, hB1⟩; have hv := vars_calls hT; rw [e2] at hv; have h0 := H0 _ _ _ hT)
    | (go_at_call 20; with_reducible refine hv.mono ?_; rintro e w' ⟨rfl, hw⟩; obtain rfl := hw.symm)
    | (go_at_call 22; with_reducible refine h0.mono ?_; rintro e w2 ⟨rfl, hB2⟩; have h1 := H1 _ _ _ (hT.below hB2))
    | (go_at_call 22; with_reducible refine h1.mono ?_; rintro e w3 ⟨rfl, hB3⟩))
  go_ret
  have s1 := hB0.size
  have s2 := hB1.size
  have s3 := hB2.size
  exact ⟨rfl, ((hB0.trans (hB1.mono s1)).trans (hB2.mono (Nat.le_trans s1 s2))).trans (hB3.mono (Nat.le_trans s1 (Nat.le_trans s2 s3)))⟩
end Go.Proofs.Ytohgjbkiemnfnaa.Ato
