/- The table of atoms: an atom's variable. Walks by hand. -/
import Derived.Test.YtohgjbkiemnfnaaAtr
namespace Go.Proofs.Ytohgjbkiemnfnaa.Ato
open Go Go.RowKit Go.Proofs.Ytohgjbkiemnfnaa.X Go.Proofs.Ytohgjbkiemnfnaa.Hlp Go.Proofs.YtohgjbkiemnfnaaW.PrintWords Go.Proofs.YtohgjbkiemnfnaaW.PrintLast Go.Proofs.YtohgjbkiemnfnaaW.PrintMore
attribute [local go_sem] max2_int min2_int max_two min_two
set_option linter.unusedVariables false
set_option linter.unusedSimpArgs false
/-- Where a package begins. -/
def beg (l : List Int) (p : Nat) : Int := tot (l.take p) + 1
theorem box_cells (w : World) (a b c : Value) : (w.alloc (.cells #[a, b, c] 24)).cell? ⟨w.heap.size, 0, none⟩ = some a ∧ (w.alloc (.cells #[a, b, c] 24)).cell? ⟨w.heap.size, 1, none⟩ = some b ∧ (w.alloc (.cells #[a, b, c] 24)).cell? ⟨w.heap.size, 2, none⟩ = some c :=
  ⟨cell_far (blk_new w _) 0 _ rfl, cell_far (blk_new w _) 1 _ rfl, cell_far (blk_new w _) 2 _ rfl⟩
set_option maxRecDepth 100000 in
theorem var0 {w : World} {base g : Nat} {l : List Int} (h : AT w base g l) (p : Nat) (hp : p < l.length) :
    Calls Try.prog 22 #[.pointer (some ⟨g, 0, none⟩), .agg #[.int .i64 0, .int .i64 p, .int .i64 0]] w fun e w' => e = .returned (.int .i64 (beg l p)) ∧ Below w.heap.size w w' := by
  obtain ⟨bv, sv, h1, h2, h3, h4⟩ := h
  obtain ⟨pb, qb, rfl⟩ := Hlp.own_slice h3
  obtain ⟨ps, qs, rfl⟩ := Hlp.own_slice h4
  obtain ⟨rb, rfl⟩ := addr_of h3 (by omega)
  obtain ⟨rs, rfl⟩ := addr_of h4 (by omega)
  have hB : Below w.heap.size w (w.alloc (.cells #[.int .i64 0, .int .i64 p, .int .i64 0] 24)) := (Below.refl _ _).alloc (Nat.le_refl _) _
  have hc0 := cell_below' (cell_far h1 0 _ rfl) hB
  have hc1 := cell_below' (cell_far h1 1 _ rfl) hB
  have hcb := cell_below' (row_cell h3 p (.int .i64 (beg l p)) (by simp [ints, begs, beg, hp])) hB
  have hcs := cell_below' (row_cell h4 p (.int .i64 (l.getD p 0)) (by simp [ints, hp])) hB
  obtain ⟨hx0, hx1, hx2⟩ := box_cells w (.int .i64 0) (.int .i64 p) (.int .i64 0)
  have hp0 : ¬ (p : Int) < 0 := by omega
  have hp1 : ¬ (l.length : Int) ≤ (p : Int) := by omega
  have hp2 : (p : Int) < (l.length : Int) := by omega
  generalize l.getD p 0 = n at *
  generalize beg l p = b at *
  go_enter Try.func22, Try.ntmps22
  go_wp2_with fail
  go_quiet (fail)
  go_wp2_with fail
  go_quiet (fail)
  go_wp2
  go_ret
  exact ⟨rfl, pw_below_drewN hB _⟩
set_option maxRecDepth 100000 in
theorem var1 {w : World} {base g : Nat} {l : List Int} (h : AT w base g l) (p : Nat) (hp : p < l.length) (k : Nat) (hk : (k : Int) < l.getD p 0 - 1) (hn0 : l.getD p 0 ≤ 16777216) (hb0 : 0 ≤ beg l p) (hb1 : beg l p ≤ 100000000) :
    Calls Try.prog 22 #[.pointer (some ⟨g, 0, none⟩), .agg #[.int .i64 1, .int .i64 p, .int .i64 k]] w fun e w' => e = .returned (.int .i64 (beg l p + 1 + k)) ∧ Below w.heap.size w w' := by
  obtain ⟨bv, sv, h1, h2, h3, h4⟩ := h
  obtain ⟨pb, qb, rfl⟩ := Hlp.own_slice h3
  obtain ⟨ps, qs, rfl⟩ := Hlp.own_slice h4
  obtain ⟨rb, rfl⟩ := addr_of h3 (by omega)
  obtain ⟨rs, rfl⟩ := addr_of h4 (by omega)
  have hB : Below w.heap.size w (w.alloc (.cells #[.int .i64 1, .int .i64 p, .int .i64 k] 24)) := (Below.refl _ _).alloc (Nat.le_refl _) _
  have hc0 := cell_below' (cell_far h1 0 _ rfl) hB
  have hc1 := cell_below' (cell_far h1 1 _ rfl) hB
  have hcb := cell_below' (row_cell h3 p (.int .i64 (beg l p)) (by simp [ints, begs, beg, hp])) hB
  have hcs := cell_below' (row_cell h4 p (.int .i64 (l.getD p 0)) (by simp [ints, hp])) hB
  obtain ⟨hx0, hx1, hx2⟩ := box_cells w (.int .i64 1) (.int .i64 p) (.int .i64 k)
  have hk0 : (0 : Int) ≤ k := by omega
  have hp0 : ¬ (p : Int) < 0 := by omega
  have hp1 : ¬ (l.length : Int) ≤ (p : Int) := by omega
  have hp2 : (p : Int) < (l.length : Int) := by omega
  generalize l.getD p 0 = n at *
  generalize beg l p = b at *
  go_enter Try.func22, Try.ntmps22
  go_wp2_with fail
  go_quiet (fail)
  go_wp2_with fail
  go_quiet (fail)
  go_wp2
  go_ret
  exact ⟨rfl, pw_below_drewN hB _⟩
set_option maxRecDepth 100000 in
theorem var2 {w : World} {base g : Nat} {l : List Int} (h : AT w base g l) (p : Nat) (hp : p < l.length) (k : Nat) (hk : (k : Int) < l.getD p 0) (hn0 : l.getD p 0 ≤ 16777216) (hb0 : 0 ≤ beg l p) (hb1 : beg l p ≤ 100000000) :
    Calls Try.prog 22 #[.pointer (some ⟨g, 0, none⟩), .agg #[.int .i64 2, .int .i64 p, .int .i64 k]] w fun e w' => e = .returned (.int .i64 (beg l p + 1 + (l.getD p 0 - 1) + k)) ∧ Below w.heap.size w w' := by
  obtain ⟨bv, sv, h1, h2, h3, h4⟩ := h
  obtain ⟨pb, qb, rfl⟩ := Hlp.own_slice h3
  obtain ⟨ps, qs, rfl⟩ := Hlp.own_slice h4
  obtain ⟨rb, rfl⟩ := addr_of h3 (by omega)
  obtain ⟨rs, rfl⟩ := addr_of h4 (by omega)
  have hB : Below w.heap.size w (w.alloc (.cells #[.int .i64 2, .int .i64 p, .int .i64 k] 24)) := (Below.refl _ _).alloc (Nat.le_refl _) _
  have hc0 := cell_below' (cell_far h1 0 _ rfl) hB
  have hc1 := cell_below' (cell_far h1 1 _ rfl) hB
  have hcb := cell_below' (row_cell h3 p (.int .i64 (beg l p)) (by simp [ints, begs, beg, hp])) hB
  have hcs := cell_below' (row_cell h4 p (.int .i64 (l.getD p 0)) (by simp [ints, hp])) hB
  obtain ⟨hx0, hx1, hx2⟩ := box_cells w (.int .i64 2) (.int .i64 p) (.int .i64 k)
  have hk1 : ¬ l.getD p 0 - 1 < 0 := by omega
  have hk2 : (0 : Int) ≤ l.getD p 0 - 1 := by omega
  have hk0 : (0 : Int) ≤ k := by omega
  have hp0 : ¬ (p : Int) < 0 := by omega
  have hp1 : ¬ (l.length : Int) ≤ (p : Int) := by omega
  have hp2 : (p : Int) < (l.length : Int) := by omega
  generalize l.getD p 0 = n at *
  generalize beg l p = b at *
  go_enter Try.func22, Try.ntmps22
  go_wp2_with fail
  go_quiet (fail)
  go_wp2_with fail
  go_quiet (fail)
  go_wp2
  go_ret
  exact ⟨rfl, pw_below_drewN hB _⟩
end Go.Proofs.Ytohgjbkiemnfnaa.Ato
