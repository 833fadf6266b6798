-- Written by a program of this session (wip/xp), out of the translation. Not trusted: Lean checks it.
import Derived.Test.YtohgjbkiemnfnaaR0
import Derived.Test.YtohgjbkiemnfnaaLayComp
import Derived.Test.YtohgjbkiemnfnaaOwn
-- shrunk
namespace Go.Proofs.Ytohgjbkiemnfnaa.R
open Go.RowKit Go.Proofs.YtohgjbkiemnfnaaW.PrintWords Go.Proofs.YtohgjbkiemnfnaaW.PrintLast Go.Proofs.YtohgjbkiemnfnaaW.PrintMore
attribute [local go_sem] Lab.str_gtr Lab.str_leq Lab.str_geq max2_int min2_int max_two min_two max_three min_three max_four min_four   -- for this text's walks alone
set_option linter.unusedVariables false
set_option linter.unusedSimpArgs false

/-! ### slices_Compact_int_int: function 71 -/
-- imports: Derived.Test.YtohgjbkiemnfnaaLayComp Derived.Test.YtohgjbkiemnfnaaOwn
def slices_Compact_int_int.f (l0 : List Int) : Option (List Int) := some (Lib.compactUpTo l0.toArray l0.length)
theorem slices_Compact_int_int.calls (P0_ : Nat → Prop) (u9000_ : Value) (l0 : List Int) (r : List Int) (w0 w : World) (hB : Below w0.heap.size w0 w) (ho0 : Kd.R (Kd.int .i64) 3 w w0.heap.size P0_ u9000_ l0) (h : slices_Compact_int_int.f l0 = some r) :
 Calls Try.prog 71 #[u9000_] w fun e w' => ∃ v0_ : Value, e = .returned v0_ ∧ Kd.R (Kd.int .i64) 3 w' w0.heap.size (fun k_ => (P0_ k_ ∨ w.heap.size ≤ k_)) v0_ r ∧ Below w0.heap.size w0 w' ∧ Kept w w' (fun k_ => P0_ k_) := by
 obtain rfl := Option.some.inj h
 clear h
 rcases Nat.eq_zero_or_pos l0.length with h0 | h0
 ·obtain rfl := List.length_eq_zero_iff.mp h0
  obtain ⟨p, cap, rfl⟩ := Own.empty_row ho0
  have HO := Aside0.mk ho0
  clear ho0
  go_enter Try.func71, Try.ntmps71
  go_wp2
  go_ret
  exact ⟨_, rfl, Kd.R_mono HO.out (fun k hk => .inl hk), hB, Kept.refl _ _⟩
 ·obtain ⟨g, cap, cur, rfl, hcap, hmax, hbase, hok, hg, hsz, ht⟩ := Own.open_row ho0 h0
  have hcon := AnyE.slices_Compact Try.compact_int (Value.int .i64) (fun _ => rfl) (EqlAt.intD _ _ _) (NeqAt.intD _ _ _) 0 Try.zeroValue3 g 0 cap l0.toArray w (Own.holds_row hg ht) (by unfold maxLen at hmax; simp; omega) (by simpa using hcap)
  change Calls Try.prog 71 _ _ _ at hcon
  simp only [List.size_toArray] at hcon
  refine hcon.mono ?_
  rintro e w' ⟨rfl, q, rfl⟩
  have hle : (Lib.compactUpTo l0.toArray l0.length).length ≤ l0.length := by
   unfold Lib.compactUpTo
   rw [List.length_map]
   exact Nat.le_trans (List.length_filter_le _ _) (by simp)
  have hr := Own.put_row (h1 := fun _ => rfl) (enc := Value.int .i64) (ok := fun k_ => (P0_ k_ ∨ w.heap.size ≤ k_)) (base := w0.heap.size) (cap := cap) (d := Lib.compactUpTo l0.toArray l0.length ++ List.replicate (l0.length - (Lib.compactUpTo l0.toArray l0.length).length) 0) (.inl hok) hbase hg (by simp; omega) hmax hsz (Lib.compactUpTo l0.toArray l0.length).length q (by simp) #[]
  rw [List.take_left] at hr
  have e : Go.Sort.putRow (Value.int .i64) (Go.Sort.ahead w q) g 0 (Lib.compactUpTo l0.toArray l0.length ++ List.replicate (l0.length - (Lib.compactUpTo l0.toArray l0.length).length) 0).toArray = sortWorld (Value.int .i64) w g 0 q (Lib.compactUpTo l0.toArray l0.length ++ List.replicate (l0.length - (Lib.compactUpTo l0.toArray l0.length).length) 0).toArray #[] := by
   unfold sortWorld; rw [Go.Sort.grow_empty]
  rw [e]
  exact ⟨_, rfl, hr, Own.sort_below hB hbase hB.size, Own.sort_kept hok⟩

end Go.Proofs.Ytohgjbkiemnfnaa.R
