-- Written by a program of this session (wip/xp), out of the translation. Not trusted: Lean checks it.
import Derived.Test.YtcebjhbphcoboaaX0
import Derived.Test.YtcebjhbphcoboaaRc
-- shrunk
namespace Go.Proofs.Ytcebjhbphcoboaa.X
open Go.RowKit Go.Proofs.YtcebjhbphcoboaaW.PrintWords Go.Proofs.YtcebjhbphcoboaaW.PrintLast Go.Proofs.YtcebjhbphcoboaaW.PrintMore
attribute [local go_sem] Lab.str_gtr Lab.str_leq Lab.str_geq max2_int min2_int max_two min_two max_three min_three max_four min_four   -- for this text's walks alone
set_option linter.unusedVariables false
set_option linter.unusedSimpArgs false

/-! ### ferrulelaw15_OrderPlays: function 10 -/
-- imports: Derived.Test.YtcebjhbphcoboaaRc
def ferrulelaw15_OrderPlays.f (l0 : List Int) (l1 : List S74) : Option Bool := if ∀ a ∈ l1, -9223372036854775808 ≤ a.f1 ∧ a.f1 ≤ 9223372036854775807 then some true else none
theorem ferrulelaw15_OrderPlays.calls (A0 : Option Addr) (c0 : Nat) (l0 : List Int) (A1 : Option Addr) (c1 : Nat) (l1 : List S74) (r : Bool) (w : World) (hr0 : Kd.C (Kd.int .i64) w A0 l0.length l0) (hc0 : l0.length ≤ c0) (hr1 : Kd.C k74 w A1 l1.length l1) (hc1 : l1.length ≤ c1) (h : ferrulelaw15_OrderPlays.f l0 l1 = some r) :
 Calls Try.prog 10 #[.slice A0 l0.length c0, .slice A1 l1.length c1] w fun e w' => e = .returned (.bool r) ∧ Below w.heap.size w w' := by
 unfold ferrulelaw15_OrderPlays.f at h
 split at h
 case isFalse => cases h
 case isTrue hx =>
  obtain rfl := Option.some.inj h
  exact Ato.lawP_calls A0 c0 l0 A1 c1 l1 w hr0 hc0 hr1 hc1 hx

def ferrulelaw15_OrderPlays.Pure : Prop := ∀ (l0 : List Int) (l1 : List (S74)), l0.length ≤ maxLen → (∀ x ∈ l0, (Lit.int .i64 x).wf = true) → (fun l : (List S74) => l.length ≤ maxLen ∧ ∀ x ∈ l, v74 x) l1 → ferrulelaw15_OrderPlays.f l0 l1 = some true

end Go.Proofs.Ytcebjhbphcoboaa.X
