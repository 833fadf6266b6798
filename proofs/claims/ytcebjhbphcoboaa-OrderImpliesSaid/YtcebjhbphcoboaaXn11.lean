-- Written by a program of this session (wip/xp), out of the translation. Not trusted: Lean checks it.
import Derived.Test.YtcebjhbphcoboaaX0
import Derived.Test.YtcebjhbphcoboaaQx
-- shrunk
namespace Go.Proofs.Ytcebjhbphcoboaa.X
open Go.RowKit Go.Proofs.YtcebjhbphcoboaaW.PrintWords Go.Proofs.YtcebjhbphcoboaaW.PrintLast Go.Proofs.YtcebjhbphcoboaaW.PrintMore
attribute [local go_sem] Lab.str_gtr Lab.str_leq Lab.str_geq max2_int min2_int max_two min_two max_three min_three max_four min_four   -- for this text's walks alone
set_option linter.unusedVariables false
set_option linter.unusedSimpArgs false

/-! ### ferrulelaw15_OrderImplies: function 11 -/
-- imports: Derived.Test.YtcebjhbphcoboaaQx
def ferrulelaw15_OrderImplies.f (l0 : List Int) (l1 : List Int) (a2 : Int) (a3 : Int) : Option Bool := if (∀ x ∈ l1, -9223372036854775808 ≤ x ∧ x ≤ 9223372036854775807) ∧ -9223372036854775808 ≤ a3 ∧ a3 ≤ 9223372036854775807 then some true else none
theorem ferrulelaw15_OrderImplies.calls (A0 : Option Addr) (c0 : Nat) (l0 : List Int) (A1 : Option Addr) (c1 : Nat) (l1 : List Int) (a2 : Int) (a3 : Int) (r : Bool) (w : World) (hr0 : Kd.C (Kd.int .i64) w A0 l0.length l0) (hc0 : l0.length ≤ c0) (hr1 : Kd.C (Kd.int .i64) w A1 l1.length l1) (hc1 : l1.length ≤ c1) (h : ferrulelaw15_OrderImplies.f l0 l1 a2 a3 = some r) :
 Calls Try.prog 11 #[.slice A0 l0.length c0, .slice A1 l1.length c1, .int .i64 a2, .int .i64 a3] w fun e w' => e = .returned (.bool r) ∧ Below w.heap.size w w' := by
 unfold ferrulelaw15_OrderImplies.f at h
 split at h
 case isFalse => cases h
 case isTrue hx =>
  obtain rfl := Option.some.inj h
  exact Ato.lawI_calls A0 c0 l0 A1 c1 l1 a2 a3 w hr0 hc0 hr1 hc1 hx.1 hx.2

def ferrulelaw15_OrderImplies.Pure : Prop := ∀ (l0 : List Int) (l1 : List Int) (a2 : Int) (a3 : Int), l0.length ≤ maxLen → (∀ x ∈ l0, (Lit.int .i64 x).wf = true) → l1.length ≤ maxLen → (∀ x ∈ l1, (Lit.int .i64 x).wf = true) → (Lit.int .i64 a2).wf = true → (Lit.int .i64 a3).wf = true → ferrulelaw15_OrderImplies.f l0 l1 a2 a3 = some true

end Go.Proofs.Ytcebjhbphcoboaa.X
