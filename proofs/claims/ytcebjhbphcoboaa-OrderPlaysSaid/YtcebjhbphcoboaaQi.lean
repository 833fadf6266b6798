/- The theory of ranks (order): a solver, what is allowed, what is implied. Walks by hand. -/
import Derived.Test.YtcebjhbphcoboaaQh
import Derived.Test.YtcebjhbphcoboaaCut
namespace Go.Proofs.Ytcebjhbphcoboaa.Ato
open Go Go.RowKit Go.Proofs.Ytcebjhbphcoboaa.X Go.Proofs.Ytcebjhbphcoboaa.Hlp Go.Proofs.YtcebjhbphcoboaaW.PrintWords Go.Proofs.YtcebjhbphcoboaaW.PrintLast Go.Proofs.YtcebjhbphcoboaaW.PrintMore Go.Proofs.Ytcebjhbphcoboaa.Aid
attribute [local go_sem] max2_int min2_int max_two min_two
set_option linter.unusedVariables false
set_option linter.unusedSimpArgs false
/-- Sizes that a table may have. -/
def Szs (l : List Int) : Prop := l.length ≤ 4096 ∧ (∀ n ∈ l, 0 ≤ n ∧ n ≤ 16777216) ∧ tot l ≤ 16777216
/-- A solver at block gs: its table (made ahead of it), and the literals that were asserted. -/
def SO (W0 : World) (b0 g : Nat) (l : List Int) (W : World) (base gs : Nat) (lv : Value) (L : List Int) : Prop :=
  AT W0 b0 g l ∧ Below W0.heap.size W0 W ∧ W0.heap.size ≤ base ∧ W.heap[gs]? = some (.cells #[.pointer (some ⟨g, 0, none⟩), lv] 113 (0, 0)) ∧ base ≤ gs ∧ cutRow W base 3 1 lv L.length (ints L)
theorem SO.at_ {W0 : World} {b0 g : Nat} {l : List Int} {W : World} {base gs : Nat} {lv : Value} {L : List Int} (h : SO W0 b0 g l W base gs lv L) : AT W b0 g l := h.1.below h.2.1
theorem SO.below {W0 : World} {b0 g : Nat} {l : List Int} {W W' : World} {base gs : Nat} {lv : Value} {L : List Int} (h : SO W0 b0 g l W base gs lv L) (hb : Below W.heap.size W W') : SO W0 b0 g l W' base gs lv L := by
  obtain ⟨h1, h2, h3, h4, h5, h6⟩ := h
  exact ⟨h1, h2.trans (hb.mono h2.size), h3, blk_below h4 hb, h5, h6.below hb⟩
theorem C_of_cut {w : World} {base : Nat} {v : Value} {l : List Int} (h : cutRow w base 3 1 v l.length (ints l)) : ∃ A c, v = .slice A l.length c ∧ l.length ≤ c ∧ Kd.C (Kd.int .i64) w A l.length l := by
  obtain ⟨p, cap, cap0, rfl, h1, h2, h3⟩ := h
  obtain ⟨A, c, e, _, hC⟩ := C_of_ints h3
  obtain ⟨rfl, _, _⟩ := Value.slice.inj e
  exact ⟨p, cap, rfl, h1, hC⟩
/-- Literals that a machine's int holds. -/
def In64 (L : List Int) : Prop := ∀ x ∈ L, -16777216 ≤ x ∧ x ≤ 16777216
theorem In64.wide {L : List Int} (h : In64 L) : ∀ x ∈ L, -9223372036854775808 ≤ x ∧ x ≤ 9223372036854775807 := fun x hx => by have := h x hx; omega
theorem new_nil (w : World) : Calls Try.prog 39 #[.pointer none] w fun e w' => e = .returned (.pointer none) ∧ Below w.heap.size w w' := by
  go_enter Try.func39, Try.ntmps39
  go_wp2
  go_ret
  exact ⟨rfl, Below.refl _ _⟩
theorem newS_calls {w : World} {b0 g : Nat} {l : List Int} (h : AT w b0 g l) : Calls Try.prog 39 #[.pointer (some ⟨g, 0, none⟩)] w fun e w' => ∃ gs, e = .returned (.pointer (some ⟨gs, 0, none⟩)) ∧ SO w b0 g l w' w.heap.size gs (.slice none 0 0) [] ∧ Below w.heap.size w w' := by
  go_enter Try.func39, Try.ntmps39
  go_wp2
  go_ret
  exact ⟨_, rfl, ⟨h, (Below.refl _ _).alloc (Nat.le_refl _) _, Nat.le_refl _, blk_new w _, Nat.le_refl _, cut_nil _ _ _ _⟩, (Below.refl _ _).alloc (Nat.le_refl _) _⟩
/-- What a package's literals allow. -/
def alwP (l L : List Int) (p : Int) : List Int := if 0 ≤ p ∧ p < l.length then alw l p (ofL l p L) else []
set_option maxHeartbeats 1000000 in
set_option maxRecDepth 100000 in
theorem alwP_calls {W0 : World} {b0 g : Nat} {l : List Int} {w : World} {base gs : Nat} {lv : Value} {L : List Int} (h : SO W0 b0 g l w base gs lv L) (p : Int) (hs : Szs l) (hL : L.length ≤ 1000) (hx : In64 L) :
    Calls Try.prog 46 #[.pointer (some ⟨gs, 0, none⟩), .int .i64 p] w fun e w' => ∃ v, e = .returned v ∧ w'.ownsRow w.heap.size 3 1 v (alwP l L p).length (ints (alwP l L p)) ∧ Below w.heap.size w w' := by
  have hT := h.at_
  obtain ⟨h1, h2, h3, h4, h5, h6⟩ := h
  obtain ⟨hs1, hs2, hs3⟩ := hs
  obtain ⟨A, c, rfl, hc, hC⟩ := C_of_cut h6
  have c0 := cell_far h4 0 _ rfl
  have c1 := cell_far h4 1 _ rfl
  have hpk := packs_calls hT
  have hof := fun W (hb : Below w.heap.size w W) => of_calls (hT.below hb) p A c L (Kd.C_below hC hb) hc hL hx.wide hs1 hs2 hs3
  have hsub : ∀ x ∈ ofL l p L, -9223372036854775808 ≤ x ∧ x ≤ 9223372036854775807 := fun x hm => hx.wide x ((List.mem_filter.mp hm).1)
  unfold alwP
  by_cases hp0 : p < 0
  · rw [if_neg (by omega)]
    go_enter Try.func46, Try.ntmps46
    go_wp2_with (first
      | (go_at_call 72; with_reducible refine hpk.mono ?_; rintro e w1 ⟨rfl, hw⟩; obtain rfl := hw.symm))
    go_ret
    exact ⟨_, rfl, World.ownsRow_nil _ _ _ _, Below.refl _ _⟩
  by_cases hp1 : (l.length : Int) ≤ p
  · rw [if_neg (by omega)]
    go_enter Try.func46, Try.ntmps46
    go_wp2_with (first
      | (go_at_call 72; with_reducible refine hpk.mono ?_; rintro e w1 ⟨rfl, hw⟩; obtain rfl := hw.symm))
    go_ret
    exact ⟨_, rfl, World.ownsRow_nil _ _ _ _, Below.refl _ _⟩
  rw [if_pos (by omega)]
  have hp2 : p < (l.length : Int) := by omega
  go_enter Try.func46, Try.ntmps46
  go_wp2_with (first
    | (go_at_call 72; with_reducible refine hpk.mono ?_; rintro e w1 ⟨rfl, hw⟩; obtain rfl := hw.symm))
  have hBd : Below w.heap.size w w.drew := pw_below_drewN (Below.refl _ _) 1
  have d0 : w.drew.cell? ⟨gs, 0, none⟩ = some (.pointer (some ⟨g, 0, none⟩)) := c0
  have d1 : w.drew.cell? ⟨gs, 1, none⟩ = some (.slice A L.length c) := c1
  go_region_with (first
    | (go_at_call 78; with_reducible refine (hof _ hBd).mono ?_; rintro e w2 ⟨v2, rfl, hown2, hB2⟩; obtain ⟨A2, c2, e2, hc2, hC2⟩ := C_of_ints hown2; subst e2; have hBw2 := hBd.trans (hB2.mono hBd.size); have k0 := cell_below' d0 hB2)
    | (go_at_call 79; with_reducible refine (allowed_calls (hT.below hBw2) p A2 c2 (ofL l p L) hC2 hc2 hsub hs1 hs2 hs3).mono ?_; rintro e w3 ⟨v3, rfl, hown3, hB3⟩))
  all_goals
    go_wp2
    go_ret
    exact ⟨_, rfl, Hlp.own_base hown3 hBw2.size, hBw2.trans (hB3.mono hBw2.size)⟩
end Go.Proofs.Ytcebjhbphcoboaa.Ato
