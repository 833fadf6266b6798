/- The theory of ranks (order): the least that is allowed, of each package. A walk by hand. (and what follows from it) -/
import Derived.Test.YtcebjhbphcoboaaQi
import Derived.Test.YtcebjhbphcoboaaQl
import Derived.Test.YtcebjhbphcoboaaXm
namespace Go.Proofs.Ytcebjhbphcoboaa.Ato
open Go Go.RowKit Go.Proofs.Ytcebjhbphcoboaa.X Go.Proofs.Ytcebjhbphcoboaa.Hlp Go.Proofs.YtcebjhbphcoboaaW.PrintWords Go.Proofs.YtcebjhbphcoboaaW.PrintLast Go.Proofs.YtcebjhbphcoboaaW.PrintMore Go.Proofs.Ytcebjhbphcoboaa.Aid
attribute [local go_sem] max2_int min2_int max_two min_two
set_option linter.unusedVariables false
set_option linter.unusedSimpArgs false
def snapK (l L : List Int) (k : Nat) : List Int := (List.range k).map fun (p : Nat) => (alwP l L (p : Int)).headD 0
theorem snapK_succ (l L : List Int) (k : Nat) : snapK l L (k + 1) = snapK l L k ++ [(alwP l L (k : Int)).headD 0] := by simp [snapK, List.range_succ]
theorem snapK_len (l L : List Int) (k : Nat) : (snapK l L k).length = k := by simp [snapK]
set_option maxHeartbeats 1000000 in
set_option maxRecDepth 100000 in
theorem snap_calls {W0 : World} {b0 g : Nat} {l : List Int} {w : World} {base gs : Nat} {lv : Value} {L : List Int} (h : SO W0 b0 g l w base gs lv L) (hs : Szs l) (hL : L.length ≤ 1000) (hx : In64 L) (hne : ∀ p : Nat, p < l.length → alwP l L (p : Int) ≠ []) :
    Calls Try.prog 37 #[.pointer (some ⟨gs, 0, none⟩)] w fun e w' => ∃ v, e = .returned v ∧ w'.ownsRow w.heap.size 3 1 v (snapK l L l.length).length (ints (snapK l L l.length)) ∧ Below w.heap.size w w' := by
  obtain ⟨i0, hi, hz0, hz1, hz2⟩ := info_parts info3'
  have hal := fun (p : Int) W (hb : Below w.heap.size w W) => alwP_calls (h.below hb) p hs hL hx
  have hpk := packs_calls h.at_
  have hl4 := hs.1
  obtain ⟨h1, h2, h3, h4, h5, h6⟩ := h
  have c0 := cell_far h4 0 _ rfl
  go_enter Try.func37, Try.ntmps37
  go_wp2_with (first
    | (go_at_call 72; with_reducible refine hpk.mono ?_; rintro e w1 ⟨rfl, hw⟩; obtain rfl := hw.symm))
  go_loopw [3, 10] (fun v3 v10 wr => ∃ k : Nat, k ≤ l.length ∧ v10 = .int .i64 k ∧ wr.ownsRow w.heap.size 3 1 v3 k (ints (snapK l L k)) ∧ Below w.heap.size w wr)
    (fun _ v10 _ => l.length - (intOf v10).toNat)
  case atStart => exact ⟨0, Nat.zero_le _, rfl, World.ownsRow_nil _ _ _ _, Below.refl _ _⟩
  case round =>
    obtain ⟨k, hk, rfl, hown, hB⟩ := hrel
    by_cases hk1 : k < l.length
    · have hkI : (k : Int) < (l.length : Int) := by omega
      have hss := snapK_succ l L k
      have hnk := hne k hk1
      have hak := hal (k : Int) wr hB
      cases hR : alwP l L (k : Int) with
      | nil => exact absurd hR hnk
      | cons x R =>
        rw [hR] at hak hss
        have hss' : snapK l L (k + 1) = snapK l L k ++ [x] := hss
        clear hss hnk hR
        obtain ⟨p3, c3, rfl⟩ := Hlp.own_slice hown
        go_wp2_with (first
          | (go_at_call 46; with_reducible refine hak.mono ?_; rintro e w2 ⟨v2, rfl, hown2, hB2⟩; obtain ⟨p2, c2, rfl⟩ := Hlp.own_slice hown2; obtain ⟨r2, rfl⟩ := addr_of hown2 (by simp); have hc2 := row_cell hown2 0 (.int .i64 x) (by simp [ints]); have hBw2 := hB.trans (hB2.mono hB.size); have hownK := Hlp.own_below hown hB2)
          | (at_builtin; refine wpList_append_own_at _ rfl _ _ 46 rfl w.heap.size 3 i0 (.int .i64 0) 1 8 Try.underlying46 hi hz0 hz1 hz2 rfl (by decide) _ _ _ rfl (hownK.alloc _) ⟨w2.heap.size, 0, none⟩ 1 1 [.int .i64 x] rfl rfl (cell_one_new _ _ _) (by simp [Value.oneCell']) (by unfold maxLen; omega) (by omega) (by have := hBw2.size; simp; omega) ?_; intro v4 w4 hown4 hgrow4 hnil4 hblk4))
        refine ⟨⟨k + 1, by omega, rfl, ?_, ?_⟩, by simp [intOf]; omega⟩
        · rw [hss']; simpa [ints] using hown4
        · exact (hBw2.alloc hBw2.size _).grown hgrow4 (by have := hBw2.size; simp; omega) (fun q e => (hownK.lt _ e).1)
    · have hkI : ¬ (k : Int) < (l.length : Int) := by omega
      obtain rfl : k = l.length := by omega
      go_wp2
      go_ret
      exact ⟨_, rfl, by rw [snapK_len]; exact hown, hB⟩
end Go.Proofs.Ytcebjhbphcoboaa.Ato
namespace Go.Proofs.Ytcebjhbphcoboaa.Ato
open Go Go.RowKit Go.Proofs.Ytcebjhbphcoboaa.X Go.Proofs.Ytcebjhbphcoboaa.Hlp Go.Proofs.YtcebjhbphcoboaaW.PrintWords Go.Proofs.YtcebjhbphcoboaaW.PrintLast Go.Proofs.YtcebjhbphcoboaaW.PrintMore Go.Proofs.Ytcebjhbphcoboaa.Aid
attribute [local go_sem] max2_int min2_int max_two min_two
set_option linter.unusedVariables false
set_option linter.unusedSimpArgs false
theorem int_app {W1 : World} {base : Nat} {v' : Value} {xs : List Int} {b : Int} (h : W1.ownsRow base 3 1 v' (xs.length + 1) (ints xs ++ [.int .i64 b])) : W1.ownsRow base 3 1 v' (xs ++ [b]).length (ints (xs ++ [b])) := by
  simpa [ints] using h
set_option maxHeartbeats 1000000 in
set_option maxRecDepth 100000 in
theorem implied_calls {w : World} {base g : Nat} {l : List Int} (h : AT w base g l) (p : Int) (A : Option Addr) (c : Nat) (L : List Int) (x : Int) (hr : Kd.C (Kd.int .i64) w A L.length L) (hc : L.length ≤ c) (hL : L.length ≤ 1000) (hx : In64 L) (hxx : -16777216 ≤ x ∧ x ≤ 16777216) (hs : Szs l) :
    Calls Try.prog 87 #[.pointer (some ⟨g, 0, none⟩), .int .i64 p, .slice A L.length c, .int .i64 x] w fun e w' => e = .returned (.bool (decide (alw l p (L ++ [-x]) = []))) ∧ Below w.heap.size w w' := by
  obtain ⟨hs1, hs2, hs3⟩ := hs
  obtain ⟨i0, hi, hz0, hz1, hz2⟩ := info_parts info3'
  have hclone := fun W (hb : Below w.heap.size w W) => slices_Clone_int_int.calls A c L L W (Kd.C_below hr hb) hc (by unfold slices_Clone_int_int.f; rw [if_pos (by omega)])
  have hsub : ∀ y ∈ L ++ [-x], -9223372036854775808 ≤ y ∧ y ≤ 9223372036854775807 := fun y hy => by
    rw [List.mem_append] at hy
    rcases hy with hy | hy
    · exact hx.wide y hy
    · simp at hy; omega
  have hlen0 : ((alw l p (L ++ [-x])).length : Int) = 0 ↔ alw l p (L ++ [-x]) = [] := by rw [← List.length_eq_zero_iff]; omega
  have hdec : (((alw l p (L ++ [-x])).length : Int) == 0) = decide (alw l p (L ++ [-x]) = []) := by
    rw [Bool.eq_iff_iff]; simp
  go_enter Try.func87, Try.ntmps87
  go_wp2_with (first
    | (go_at_call 74; with_reducible refine (hclone _ (Below.refl _ _)).mono ?_; rintro e w1 ⟨v1, rfl, hR1, hB1⟩; have hown1 := own_of_R hR1; obtain ⟨p1, c1, rfl⟩ := Hlp.own_slice hown1)
    | (at_builtin; refine wpList_append_own_at _ rfl _ _ 46 rfl w.heap.size 3 i0 (.int .i64 0) 1 8 Try.underlying46 hi hz0 hz1 hz2 rfl (by decide) _ _ _ rfl (hown1.alloc _) ⟨w1.heap.size, 0, none⟩ 1 1 [.int .i64 (-x)] rfl rfl (cell_one_new _ _ _) (by simp [Value.oneCell']) (by unfold maxLen; omega) (by omega) (by have := hB1.size; simp; omega) ?_; intro v4 w4 hown4 hgrow4 hnil4 hblk4; have hB4 : Below w.heap.size w w4 := (hB1.alloc hB1.size _).grown hgrow4 (by have := hB1.size; simp; omega) (fun q e => (hown1.lt _ e).1); obtain ⟨A4, c4, e4, hc4, hC4⟩ := C_of_ints (int_app hown4); subst e4; have hall := allowed_calls (h.below hB4) p A4 c4 (L ++ [-x]) hC4 hc4 hsub hs1 hs2 hs3; rw [List.length_append, List.length_singleton] at hall)
    | (go_at_call 79; with_reducible refine hall.mono ?_; rintro e w5 ⟨v5, rfl, hown5, hB5⟩; obtain ⟨p5, c5, rfl⟩ := Hlp.own_slice hown5))
  go_ret
  exact ⟨rfl, hB4.trans (hB5.mono hB4.size)⟩
end Go.Proofs.Ytcebjhbphcoboaa.Ato
