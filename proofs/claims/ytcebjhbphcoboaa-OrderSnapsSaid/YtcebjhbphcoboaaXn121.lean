-- Written by a program of this session (wip/xp), out of the translation. Not trusted: Lean checks it.
import Derived.Test.YtcebjhbphcoboaaX0
import Derived.Test.YtcebjhbphcoboaaLayGrow
import Derived.Test.YtcebjhbphcoboaaOwn
-- shrunk
namespace Go.Proofs.Ytcebjhbphcoboaa.X
open Go.RowKit Go.Proofs.YtcebjhbphcoboaaW.PrintWords Go.Proofs.YtcebjhbphcoboaaW.PrintLast Go.Proofs.YtcebjhbphcoboaaW.PrintMore
attribute [local go_sem] Lab.str_gtr Lab.str_leq Lab.str_geq max2_int min2_int max_two min_two max_three min_three max_four min_four   -- for this text's walks alone
set_option linter.unusedVariables false
set_option linter.unusedSimpArgs false

/-! ### slices_Grow_int_int: function 121 -/
-- imports: Derived.Test.YtcebjhbphcoboaaLayGrow Derived.Test.YtcebjhbphcoboaaOwn
/-- Of a slice without elements: it stays without. -/
def slices_Grow_int_int.f (l0 : List Int) (a1 : Int) : Option (List Int) := if l0.length = 0 ∧ 0 ≤ a1 ∧ a1 ≤ 17592186044415 then some [] else none
theorem slices_Grow_int_int.calls (P0_ : Nat → Prop) (u9000_ : Value) (l0 : List Int) (a1 : Int) (r : List Int) (w0 w : World) (hB : Below w0.heap.size w0 w) (ho0 : Kd.R (Kd.int .i64) 3 w w0.heap.size P0_ u9000_ l0) (h : slices_Grow_int_int.f l0 a1 = some r) :
 Calls Try.prog 121 #[u9000_, .int .i64 a1] w fun e w' => ∃ v0_ : Value, e = .returned v0_ ∧ Kd.R (Kd.int .i64) 3 w' w0.heap.size (fun k_ => (P0_ k_ ∨ w.heap.size ≤ k_)) v0_ r ∧ Below w0.heap.size w0 w' ∧ Kept w w' (fun k_ => P0_ k_) := by
 unfold slices_Grow_int_int.f at h
 split at h
 case isFalse => cases h
 case isTrue hc =>
 obtain rfl := Option.some.inj h
 obtain ⟨h0, h1, h2⟩ := hc
 obtain rfl := List.length_eq_zero_iff.mp h0
 clear h h0
 obtain ⟨n, rfl⟩ : ∃ n : Nat, a1 = n := ⟨a1.toNat, by omega⟩
 obtain ⟨i0, hi, hz0, hz1, hz2⟩ := info_parts info3
 obtain ⟨p, cap, cs, rfl, hcap, hnil, hcl, hcs⟩ := Own.empty_cells ho0
 rcases Nat.lt_or_ge cap n with hn | hn
 ·have hcon := Any8.slices_Grow_grow Try.grow_int i0 (.int .i64 0) hi hz0 (by rw [hz1]; decide) p 0 cap n cs w (Nat.zero_le _) (by omega) (by rw [hz2]; omega) (by omega) (by rw [hz1, hcl]; omega) hnil hcs
  change Calls Try.prog 121 _ _ _ at hcon
  rw [show Try.grow_int_ren.t 25 = 3 from rfl] at hcon
  refine hcon.mono ?_
  rintro e w' ⟨rfl, rfl⟩
  have hb : Below w.heap.size w (w.drew.alloc (.cells (cs.toArray ++ Builtin.zeroCells (Value.int .i64 0).cells (0 + n - cap) ++ Builtin.zeroCells (Value.int .i64 0).cells (grownCap w (0 + n) cap 3 - (0 + n))) 3)) := ((Below.refl _ w).drew).alloc (Nat.le_refl _) _
  have hG : 0 + n ≤ grownCap w (0 + n) cap 3 := grownCap_ge w _ _ _
  refine ⟨_, rfl, Own.shut_row (h1 := fun _ => rfl) (enc := Value.int .i64) (xs := []) (g := w.heap.size) (cap := grownCap w (0 + n) cap 3) (.inr (Nat.le_refl _)) hB.size (heap_alloc_new w.drew _) (Nat.zero_le _) (grownCap_le_maxLen w (0 + n) cap 3 (by unfold maxLen; omega)) ?_ rfl, hB.trans (hb.mono hB.size), Kept.of_below hb _⟩
  have hzs : ∀ k, (Builtin.zeroCells (Value.int .i64 0).cells k).size = k := fun k => by simp [Builtin.zeroCells, Value.cells]
  simp only [Array.size_append, hzs, List.size_toArray, hcl]
  omega
 ·have hcon := Any8.slices_Grow_room Try.grow_int p 0 cap n w (Nat.zero_le _) (by unfold maxLen at hcap; omega) (by omega) (by omega)
  change Calls Try.prog 121 _ _ _ at hcon
  refine hcon.mono ?_
  rintro e w' ⟨rfl, rfl⟩
  exact ⟨_, rfl, Kd.R_mono ho0 (fun k hk => .inl hk), hB, Kept.refl _ _⟩

end Go.Proofs.Ytcebjhbphcoboaa.X
