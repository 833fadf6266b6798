-- Written by a program of this session (wip/xp), out of the translation. Not trusted: Lean checks it.
import Derived.Test.YtohgjbkiemnfnaaR0
import Derived.Lib.SliceRun
import Derived.Test.YtohgjbkiemnfnaaOwn
-- shrunk
namespace Go.Proofs.Ytohgjbkiemnfnaa.R
open Go.RowKit Go.Proofs.YtohgjbkiemnfnaaW.PrintWords Go.Proofs.YtohgjbkiemnfnaaW.PrintLast Go.Proofs.YtohgjbkiemnfnaaW.PrintMore
attribute [local go_sem] Lab.str_gtr Lab.str_leq Lab.str_geq max2_int min2_int max_two min_two max_three min_three max_four min_four   -- for this text's walks alone
set_option linter.unusedVariables false
set_option linter.unusedSimpArgs false

/-! ### slices_Clone_int_int: function 54 -/
-- imports: Derived.Test.YtohgjbkiemnfnaaOwn Derived.Lib.SliceRun
/-- A copy of one's own. -/
def slices_Clone_int_int.f (l0 : List Int) : Option (List Int) := if l0.length ≤ 17592186044415 then some l0 else none
set_option maxHeartbeats 2000000 in
set_option maxRecDepth 100000 in
theorem slices_Clone_int_int.calls (A0 : Option Addr) (c0 : Nat) (l0 : List Int) (r : List Int) (w : World) (hr0 : Kd.C (Kd.int .i64) w A0 l0.length l0) (hc0 : l0.length ≤ c0) (h : slices_Clone_int_int.f l0 = some r) :
 Calls Try.prog 54 #[.slice A0 l0.length c0] w fun e w' => ∃ v0_ : Value, e = .returned v0_ ∧ Kd.R (Kd.int .i64) 3 w' w.heap.size (fun _ => True) v0_ r ∧ Below w.heap.size w w' := by
 unfold slices_Clone_int_int.f at h
 split at h
 case isFalse => cases h
 case isTrue hle =>
 obtain rfl := Option.some.inj h
 clear h
 have q22 : ∀ (w : World) (a : Option Addr) (n c n' c' : Nat), (binOp .eql 22 (.slice a n c) (.slice none n' c')).run Try.prog w = .ok (.bool a.isNone) w := fun w a n c n' c' => Lib.run_eql_slice_nil w _ _ a n c n' c' Try.underlying22
 have HB := Aside0.mk (Below.refl w.heap.size w)
 have hne : 0 < l0.length → ∃ ad, A0 = some ad := fun hp => (hr0.2.2 hp).imp fun _ x => x.1
 have HR := Aside0.mk hr0
 clear hr0
 cases A0 with
 | none =>
  have h0 : l0.length = 0 := by
   refine Classical.byContradiction fun hn => ?_
   obtain ⟨ad, e⟩ := hne (by omega)
   cases e
  obtain rfl := List.length_eq_zero_iff.mp h0
  clear hne h0 HR
  go_enter Try.func54, Try.ntmps54
  go_wp2
  go_ret
  exact ⟨_, rfl, Kd.R_nil _ _ _ _ _, HB.out⟩
 | some ad =>
  clear hne
  have HO := Aside0.mk (Own.shut_row (h1 := fun _ => rfl) (enc := Value.int .i64) (e := 3) (ok := fun _ => True) (xs := ([] : List Int)) (g := w.heap.size) (base := w.heap.size) (cap := 0) (cur := #[]) trivial (Nat.le_refl _) (heap_alloc_new w (.cells #[] 3)) (Nat.le_refl _) (Nat.zero_le _) rfl rfl)
  have HR1 := Aside0.mk (Kd.C_alloc HR.out (.cells #[] 3))
  have HB1 := Aside0.mk (below_alloc HB.out (.cells #[] 3))
  have HL := Aside0.mk hle
  clear hle HR HB
  go_enter Try.func54, Try.ntmps54
  go_wp2_with ((with_reducible refine gate_builtin (b := .append) (xs := #[.tmp 5, .tmp 6]) rfl ?_); at_builtin; refine Kd.R_append_rows (Kd.int .i64) (w0 := w) w.heap.size rfl (.tmp 5) (.tmp 6) 22 3 (.int .i64 0) 8 rfl Try.underlying22 info3 rfl (by decide) (by omega) (.slice (some ⟨w.heap.size, 0, none⟩) 0 0) ([] : List Int) l0 _ _ _ (fun _ => True) (fun _ => False) rfl rfl ?aO ?aR (fun _ _ h => h) (fun _ h => h.elim) ?aF ?aB ?aS ?aL ?_; (case aR => exact HR1.out); (case aB => exact HB1.out); (case aF => exact (fun _ _ => trivial)); (case aO => exact HO.out); (case aS => exact (below_size HB1.out)); (case aL => have := HL.out; simp; omega); intro v1 w1 ho hb hg hat; clear hg hat)
  go_wp2
  go_ret
  exact ⟨_, rfl, by simpa using ho, hb⟩

end Go.Proofs.Ytohgjbkiemnfnaa.R
