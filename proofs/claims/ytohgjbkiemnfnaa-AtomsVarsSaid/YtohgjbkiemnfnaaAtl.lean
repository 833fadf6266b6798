/- The table of atoms: how many packages, a package's size, any atom's variable. Walks by hand. -/
import Derived.Test.YtohgjbkiemnfnaaAtk
namespace Go.Proofs.Ytohgjbkiemnfnaa.Ato
open Go Go.RowKit Go.Proofs.Ytohgjbkiemnfnaa.X Go.Proofs.Ytohgjbkiemnfnaa.Hlp Go.Proofs.YtohgjbkiemnfnaaW.PrintWords Go.Proofs.YtohgjbkiemnfnaaW.PrintLast Go.Proofs.YtohgjbkiemnfnaaW.PrintMore Go.Proofs.Ytohgjbkiemnfnaa.Aid
attribute [local go_sem] max2_int min2_int max_two min_two
set_option linter.unusedVariables false
set_option linter.unusedSimpArgs false
set_option maxRecDepth 100000 in
theorem packs_calls {w : World} {base g : Nat} {l : List Int} (h : AT w base g l) : Calls Try.prog 21 #[.pointer (some ⟨g, 0, none⟩)] w fun e w' => e = .returned (.int .i64 l.length) ∧ w' = w := by
  obtain ⟨bv, sv, h1, h2, h3, h4⟩ := h
  obtain ⟨ps, qs, rfl⟩ := Hlp.own_slice h4
  have hc := cell_far h1 1 _ rfl
  go_enter Try.func21, Try.ntmps21
  go_wp2
  go_ret
  exact ⟨rfl, rfl⟩
/-- A package's size. -/
def sizeP (l : List Int) (p : Int) : Int := if 0 ≤ p ∧ p < l.length then l.getD p.toNat 0 else 0
set_option maxRecDepth 100000 in
theorem size_calls {w : World} {base g : Nat} {l : List Int} (h : AT w base g l) (p : Int) : Calls Try.prog 24 #[.pointer (some ⟨g, 0, none⟩), .int .i64 p] w fun e w' => e = .returned (.int .i64 (sizeP l p)) ∧ Below w.heap.size w w' := by
  obtain ⟨bv, sv, h1, h2, h3, h4⟩ := h
  obtain ⟨ps, qs, rfl⟩ := Hlp.own_slice h4
  have hc := cell_far h1 1 _ rfl
  unfold sizeP
  by_cases hp0 : p < 0
  · rw [if_neg (by omega)]
    go_enter Try.func24, Try.ntmps24
    go_wp2
    go_ret
    exact ⟨rfl, Below.refl _ _⟩
  by_cases hp1 : (l.length : Int) ≤ p
  · rw [if_neg (by omega)]
    go_enter Try.func24, Try.ntmps24
    go_wp2
    go_ret
    exact ⟨rfl, Below.refl _ _⟩
  obtain ⟨k, rfl⟩ : ∃ k : Nat, p = (k : Int) := ⟨p.toNat, by omega⟩
  rw [if_pos (by omega), Int.toNat_natCast]
  have hk : k < l.length := by omega
  have hkI : (k : Int) < (l.length : Int) := by omega
  obtain ⟨rs, rfl⟩ := addr_of h4 (by omega)
  have hcs := row_cell h4 k (.int .i64 (l.getD k 0)) (by simp [ints, hk])
  generalize l.getD k 0 = n at *
  go_enter Try.func24, Try.ntmps24
  go_wp2
  go_ret
  exact ⟨rfl, Below.refl _ _⟩
set_option maxHeartbeats 1000000 in
set_option maxRecDepth 100000 in
theorem var_calls {w : World} {base g : Nat} {l : List Int} (h : AT w base g l) (a : S24) (hn : ∀ n ∈ l, 0 ≤ n ∧ n ≤ 16777216) (ht : tot l ≤ 16777216) :
    Calls Try.prog 22 #[.pointer (some ⟨g, 0, none⟩), .agg #[.int .i64 a.f0, .int .i64 a.f1, .int .i64 a.f2]] w fun e w' => e = .returned (.int .i64 (varP l a)) ∧ Below w.heap.size w w' := by
  obtain ⟨f0, f1, f2⟩ := a
  obtain ⟨bv, sv, h1, h2, h3, h4⟩ := h
  obtain ⟨pb, qb, rfl⟩ := Hlp.own_slice h3
  obtain ⟨ps, qs, rfl⟩ := Hlp.own_slice h4
  have hB : Below w.heap.size w (w.alloc (.cells #[.int .i64 f0, .int .i64 f1, .int .i64 f2] 24)) := (Below.refl _ _).alloc (Nat.le_refl _) _
  have hc0 := cell_below' (cell_far h1 0 _ rfl) hB
  have hc1 := cell_below' (cell_far h1 1 _ rfl) hB
  obtain ⟨hx0, hx1, hx2⟩ := box_cells w (.int .i64 f0) (.int .i64 f1) (.int .i64 f2)
  unfold varP
  simp only []
  by_cases hp0 : f1 < 0
  · rw [if_pos (.inl hp0)]
    go_enter Try.func22, Try.ntmps22
    go_wp2_with fail
    go_quiet (fail)
    go_wp2
    go_ret
    exact ⟨rfl, pw_below_drewN hB _⟩
  by_cases hp1 : (l.length : Int) ≤ f1
  · rw [if_pos (.inr hp1)]
    go_enter Try.func22, Try.ntmps22
    go_wp2_with fail
    go_quiet (fail)
    go_wp2
    go_ret
    exact ⟨rfl, pw_below_drewN hB _⟩
  rw [if_neg (by omega)]
  obtain ⟨p, rfl⟩ : ∃ p : Nat, f1 = (p : Int) := ⟨f1.toNat, by omega⟩
  rw [Int.toNat_natCast]
  have hp : p < l.length := by omega
  have hp2 : (p : Int) < (l.length : Int) := by omega
  obtain ⟨rb, rfl⟩ := addr_of h3 (by omega)
  obtain ⟨rs, rfl⟩ := addr_of h4 (by omega)
  have hcb := cell_below' (row_cell h3 p (.int .i64 (beg l p)) (by simp [ints, begs, beg, hp])) hB
  have hcs := cell_below' (row_cell h4 p (.int .i64 (l.getD p 0)) (by simp [ints, hp])) hB
  have hg := hn (l.getD p 0) (by simp [List.getD, hp])
  have hb0 := beg_pos (fun n h => (hn n h).1) p
  have hb1 : beg l p ≤ 16777217 := by have := tot_le (fun n h => (hn n h).1) p; unfold beg; omega
  clear h1 h3 h4 hn ht hp0 hp1
  generalize l.getD p 0 = n at *
  generalize beg l p = b at *
  by_cases hk0 : f0 = 0
  · subst hk0
    by_cases hf : f2 = 0
    · subst hf
      rw [if_pos ⟨rfl, rfl⟩]
      go_enter Try.func22, Try.ntmps22
      go_wp2_with fail
      go_quiet (fail)
      go_wp2_with fail
      go_quiet (fail)
      go_wp2
      go_ret
      exact ⟨rfl, pw_below_drewN hB _⟩
    · rw [if_neg (by omega), if_neg (by omega), if_neg (by omega)]
      go_enter Try.func22, Try.ntmps22
      go_wp2_with fail
      go_quiet (fail)
      go_wp2_with fail
      go_quiet (fail)
      go_wp2
      go_ret
      exact ⟨rfl, pw_below_drewN hB _⟩
  by_cases hk1 : f0 = 1
  · subst hk1
    by_cases hf : 0 ≤ f2
    · by_cases hf2 : f2 < n - 1
      · rw [if_neg (by omega), if_pos (by omega)]
        go_enter Try.func22, Try.ntmps22
        go_wp2_with fail
        go_quiet (fail)
        go_wp2_with fail
        go_quiet (fail)
        go_wp2
        go_ret
        exact ⟨rfl, pw_below_drewN hB _⟩
      · rw [if_neg (by omega), if_neg (by omega), if_neg (by omega)]
        go_enter Try.func22, Try.ntmps22
        go_wp2_with fail
        go_quiet (fail)
        go_wp2_with fail
        go_quiet (fail)
        go_wp2
        go_ret
        exact ⟨rfl, pw_below_drewN hB _⟩
    · rw [if_neg (by omega), if_neg (by omega), if_neg (by omega)]
      go_enter Try.func22, Try.ntmps22
      go_wp2_with fail
      go_quiet (fail)
      go_wp2_with fail
      go_quiet (fail)
      go_wp2
      go_ret
      exact ⟨rfl, pw_below_drewN hB _⟩
  by_cases hk2 : f0 = 2
  · subst hk2
    by_cases hf : 0 ≤ f2
    · by_cases hf2 : f2 < n
      · rw [if_neg (by omega), if_neg (by omega), if_pos (by omega)]
        have hmx : 0 ≤ n - 1 := by omega
        have hmx2 : ¬ n - 1 < 0 := by omega
        have hmx3 : max (n - 1) 0 = n - 1 := by omega
        rw [hmx3]
        clear hmx3
        go_enter Try.func22, Try.ntmps22
        go_wp2_with fail
        go_quiet (fail)
        go_wp2_with fail
        go_quiet (fail)
        go_wp2
        go_ret
        exact ⟨rfl, pw_below_drewN hB _⟩
      · rw [if_neg (by omega), if_neg (by omega), if_neg (by omega)]
        go_enter Try.func22, Try.ntmps22
        go_wp2_with fail
        go_quiet (fail)
        go_wp2_with fail
        go_quiet (fail)
        go_wp2
        go_ret
        exact ⟨rfl, pw_below_drewN hB _⟩
    · rw [if_neg (by omega), if_neg (by omega), if_neg (by omega)]
      go_enter Try.func22, Try.ntmps22
      go_wp2_with fail
      go_quiet (fail)
      go_wp2_with fail
      go_quiet (fail)
      go_wp2
      go_ret
      exact ⟨rfl, pw_below_drewN hB _⟩
  rw [if_neg (by omega), if_neg (by omega), if_neg (by omega)]
  go_enter Try.func22, Try.ntmps22
  go_wp2_with fail
  go_quiet (fail)
  go_wp2_with fail
  go_quiet (fail)
  go_wp2
  go_ret
  exact ⟨rfl, pw_below_drewN hB _⟩
end Go.Proofs.Ytohgjbkiemnfnaa.Ato
