-- Written by a program of this session (wip/xp), out of the translation. Not trusted: Lean checks it.
import Derived.Test.YtohgjbkiemnfnaaR0
import Derived.Test.YtohgjbkiemnfnaaRn66
import Derived.Test.YtohgjbkiemnfnaaRn69
import Derived.Test.YtohgjbkiemnfnaaRn91
import Derived.Test.YtohgjbkiemnfnaaRn70
import Derived.Outline
import Derived.Test.YtohgjbkiemnfnaaLaySort
import Derived.Test.YtohgjbkiemnfnaaOwn
-- shrunk
namespace Go.Proofs.Ytohgjbkiemnfnaa.R
open Go.RowKit Go.Proofs.YtohgjbkiemnfnaaW.PrintWords Go.Proofs.YtohgjbkiemnfnaaW.PrintLast Go.Proofs.YtohgjbkiemnfnaaW.PrintMore
attribute [local go_sem] Lab.str_gtr Lab.str_leq Lab.str_geq max2_int min2_int max_two min_two max_three min_three max_four min_four   -- for this text's walks alone
set_option linter.unusedVariables false
set_option linter.unusedSimpArgs false

/-! ### slices_SortFunc_int_int__of68: function 134 -/
-- imports: Derived.Test.YtohgjbkiemnfnaaLaySort Derived.Test.YtohgjbkiemnfnaaOwn Derived.Outline
def slices_SortFunc_int_int__of68.cmpI (a b : Int) : Int := if a < b then -1 else if a > b then 1 else 0
/-- How two literals stand. -/
def slices_SortFunc_int_int__of68.cf (x y : Int) : Int := if slices_SortFunc_int_int__of68.cmpI (clause_abs.p x) (clause_abs.p y) = 0 then slices_SortFunc_int_int__of68.cmpI x y else slices_SortFunc_int_int__of68.cmpI (clause_abs.p x) (clause_abs.p y)
def slices_SortFunc_int_int__of68.le (x y : Int) : Bool := !(ltOf slices_SortFunc_int_int__of68.cf y x)
def slices_SortFunc_int_int__of68.f (l0 : List Int) : Option (List Int) := if l0.length < 4611686018427387904 then some (l0.mergeSort slices_SortFunc_int_int__of68.le) else none
theorem slices_SortFunc_int_int__of68.cmp (a b : Int) : cmp_Compare_int.f a b = some (slices_SortFunc_int_int__of68.cmpI a b) := by
 unfold slices_SortFunc_int_int__of68.cmpI cmp_Compare_int.f cmp_isNaN_int.f
 simp only [bne_self_eq_false, Option.bind_some]
 rw [if_neg (by simp), if_neg (by simp)]
 (repeat' split) <;> rfl
theorem slices_SortFunc_int_int__of68.or2 (a b : Int) : cmp_Or_int.f 3 [a, b] = some (if a = 0 then b else a) := by
 unfold cmp_Or_int.f
 have hl : (([a, b] : List Int).length : Int) = 2 := rfl
 rw [hl, cmp_Or_int.l0, if_pos (by omega), if_pos (by omega), hl, if_pos (by omega), show rd [a, b] 0 = a from rfl, show wrap64 (0 + 1) = 1 by unfold wrap64; omega]
 by_cases h : a = 0
 ·rw [if_pos h, if_pos h, cmp_Or_int.l0, if_pos (by omega), if_pos (by omega), hl, if_pos (by omega), show rd [a, b] 1 = b from rfl, show wrap64 (1 + 1) = 2 by unfold wrap64; omega]
  by_cases h2 : b = 0
  ·rw [if_pos h2, cmp_Or_int.l0, if_neg (by omega), h2]
  ·rw [if_neg h2]
 ·rw [if_neg h, if_neg h]
theorem slices_SortFunc_int_int__of68.lt (x y : Int) : ltOf slices_SortFunc_int_int__of68.cf x y = decide (clause_abs.p x < clause_abs.p y ∨ (clause_abs.p x = clause_abs.p y ∧ x < y)) := by
 unfold ltOf slices_SortFunc_int_int__of68.cf slices_SortFunc_int_int__of68.cmpI
 rw [decide_eq_decide]
 (repeat' split) <;> omega
theorem slices_SortFunc_int_int__of68.swo : Go.Sort.SWO (ltOf slices_SortFunc_int_int__of68.cf) where
 irrefl x := by rw [slices_SortFunc_int_int__of68.lt]; simp
 trans x y z h1 h2 := by rw [slices_SortFunc_int_int__of68.lt] at *; simp at *; omega
 ntrans x y z h1 h2 := by rw [slices_SortFunc_int_int__of68.lt] at *; simp at *; omega
theorem slices_SortFunc_int_int__of68.apart (x y : Int) (h1 : ltOf slices_SortFunc_int_int__of68.cf x y = false) (h2 : ltOf slices_SortFunc_int_int__of68.cf y x = false) : x = y := by
 rw [slices_SortFunc_int_int__of68.lt, decide_eq_false_iff_not] at h1 h2
 omega
set_option maxHeartbeats 400000 in
set_option maxRecDepth 100000 in
theorem slices_SortFunc_int_int__of68.clo (x y : Int) (W : World) : Calls Try.prog 68 #[.int .i64 x, .int .i64 y] W fun e w' => e = .returned (.int .i64 (slices_SortFunc_int_int__of68.cf x y)) ∧ ∃ q os', w' = Go.Sort.grow (W.drewN q) os' := by
 unfold slices_SortFunc_int_int__of68.cf
 have hx := fun W => clause_abs.calls x _ W rfl
 have hy := fun W => clause_abs.calls y _ W rfl
 generalize clause_abs.p x = p at hx ⊢
 generalize clause_abs.p y = q at hy ⊢
 have hc1 := fun W => cmp_Compare_int.calls p q _ W (slices_SortFunc_int_int__of68.cmp p q)
 have hc2 := fun W => cmp_Compare_int.calls x y _ W (slices_SortFunc_int_int__of68.cmp x y)
 generalize slices_SortFunc_int_int__of68.cmpI p q = c at hc1 ⊢
 generalize slices_SortFunc_int_int__of68.cmpI x y = d at hc2 ⊢
 have ho : ∀ n, Calls Try.prog 69 #[.slice (some ⟨W.heap.size, 0, none⟩) 2 2] ((W.drewN n).alloc (.cells #[.int .i64 c, .int .i64 d] 3)) fun e w' => e = .returned (.int .i64 (if c = 0 then d else c)) ∧ Drawn0 ((W.drewN n).alloc (.cells #[.int .i64 c, .int .i64 d] 3)) w' :=
  fun n => cmp_Or_int.calls 3 (some ⟨(W.drewN n).heap.size, 0, none⟩) 2 [c, d] _ _ (Own.new_row (h1 := fun _ => rfl) [c, d] 3 (W.drewN n) (by simp)) (Nat.le_refl _) (slices_SortFunc_int_int__of68.or2 c d)
 generalize (if c = 0 then d else c) = z at ho ⊢
 go_enter Try.func68, Try.ntmps68
 go_wp2_with (first
  | (go_at_call 66; with_reducible refine (hx _).mono ?_; rintro e w1 ⟨rfl, ⟨n1, rfl⟩⟩)
  | (go_at_call 66; with_reducible refine (hy _).mono ?_; rintro e w1 ⟨rfl, ⟨n2, rfl⟩⟩)
  | (go_at_call 70; with_reducible refine (hc1 _).mono ?_; rintro e w1 ⟨rfl, ⟨n3, rfl⟩⟩)
  | (go_at_call 70; with_reducible refine (hc2 _).mono ?_; rintro e w1 ⟨rfl, ⟨n4, rfl⟩⟩)
  | (go_at_call 69; with_reducible refine (ho _).mono ?_; rintro e w5 ⟨rfl, ⟨n5, rfl⟩⟩))
 go_ret
 refine ⟨rfl, n1 + n2 + n3 + n4 + n5, #[.cells #[.int .i64 c, .int .i64 d] 3], ?_⟩
 rw [Go.Sort.alloc_eq_grow, show ∀ (X : World) (os : Array Obj), (Go.Sort.grow X os).drewN n5 = Go.Sort.grow (X.drewN n5) os from fun _ _ => rfl, World.drewN_drewN]

theorem slices_SortFunc_int_int__of68.calls (P0_ : Nat → Prop) (u9000_ : Value) (l0 : List Int) (r : List Int) (w0 w : World) (hB : Below w0.heap.size w0 w) (ho0 : Kd.R (Kd.int .i64) 3 w w0.heap.size P0_ u9000_ l0) (h : slices_SortFunc_int_int__of68.f l0 = some r) :
 Calls Try.prog 67 #[u9000_, .func (.func 68) #[] #[]] w fun e w' => e = .returned (.tuple #[]) ∧ Kd.R (Kd.int .i64) 3 w' w0.heap.size (fun k_ => (P0_ k_ ∨ w.heap.size ≤ k_)) u9000_ r ∧ Below w0.heap.size w0 w' ∧ Kept w w' (fun k_ => P0_ k_) := by
 unfold slices_SortFunc_int_int__of68.f at h
 split at h
 case isFalse => cases h
 case isTrue hl =>
 obtain rfl := Option.some.inj h
 clear h
 have eg : ∀ args w, (callFunc 68 args).run Try.prog w = .ok (.enter 68 args) w := enters_of Try.func68 (by kernel_rfl) rfl
 rcases Nat.eq_zero_or_pos l0.length with h0 | h0
 ·obtain rfl := List.length_eq_zero_iff.mp h0
  obtain ⟨p, cap, rfl⟩ := Own.empty_row ho0
  exact (AnyF.slices_SortFunc_none (P := Try.prog) (ρ := Try.sort_int_ren) { Try.sort_int with } p cap _ w).mono fun e w' ⟨he, hw⟩ => by
   subst hw
   exact ⟨he, by simpa using Kd.R_mono ho0 (fun k hk => .inl hk), hB, Kept.refl _ _⟩
 ·obtain ⟨g, cap, cur, rfl, hcap, hmax, hbase, hok, hg, hsz, ht⟩ := Own.open_row ho0 h0
  have hlt : g < w.heap.size := by
   rcases Nat.lt_or_ge g w.heap.size with h | h
   ·exact h
   ·rw [Array.getElem?_eq_none h] at hg; cases hg
  have hcon := Any.slices_SortFunc_total Try.sort_int (Value.int .i64) (fun _ => rfl) slices_SortFunc_int_int__of68.cf slices_SortFunc_int_int__of68.swo 68 #[] g 0 cap l0.toArray w eg
   (fun m os dk _ x y => slices_SortFunc_int_int__of68.clo x y _) (Own.holds_row hg ht) hlt (by simpa using hl) slices_SortFunc_int_int__of68.apart
  change Calls Try.prog 67 _ _ _ at hcon
  simp only [List.size_toArray] at hcon
  refine hcon.mono ?_
  rintro e w' ⟨rfl, n, os, rfl⟩
  have hlen : (l0.mergeSort slices_SortFunc_int_int__of68.le).length = l0.length := List.length_mergeSort _
  have hr := Own.put_row (h1 := fun _ => rfl) (enc := Value.int .i64) (ok := fun k_ => (P0_ k_ ∨ w.heap.size ≤ k_)) (base := w0.heap.size) (cap := cap) (d := l0.mergeSort slices_SortFunc_int_int__of68.le) (.inl hok) hbase hg (by omega) hmax hsz l0.length n (by omega) os
  rw [List.take_of_length_le (by omega)] at hr
  exact ⟨rfl, hr, Own.sort_below hB hbase hB.size, Own.sort_kept hok⟩

end Go.Proofs.Ytohgjbkiemnfnaa.R
