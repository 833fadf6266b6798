-- Written by a program of this session (wip/xp), out of the translation. Not trusted: Lean checks it.
import Derived.Test.YtcebjhbphcoboaaC0
import Derived.Test.YtcebjhbphcoboaaCo
-- shrunk
namespace Go.Proofs.Ytcebjhbphcoboaa.C
open Go.RowKit Go.Proofs.YtcebjhbphcoboaaW.PrintWords Go.Proofs.YtcebjhbphcoboaaW.PrintLast Go.Proofs.YtcebjhbphcoboaaW.PrintMore
attribute [local go_sem] Lab.str_gtr Lab.str_leq Lab.str_geq max2_int min2_int max_two min_two max_three min_three max_four min_four   -- for this text's walks alone
set_option linter.unusedVariables false
set_option linter.unusedSimpArgs false

/-! ### ferrulelaw23_CertLonger: function 8 -/
-- imports: Derived.Test.YtcebjhbphcoboaaCo
def ferrulelaw23_CertLonger.f (l0_0 : List Int) (l0_1 : List S95) (a1 : Int) (a2 : Int) : Option Bool := if 0 ≤ a1 ∧ a1 < 65536 then some true else none
theorem ferrulelaw23_CertLonger.calls (A0_0 : Option Addr) (c0_0 : Nat) (l0_0 : List Int) (A0_1 : Option Addr) (c0_1 : Nat) (l0_1 : List S95) (a1 : Int) (a2 : Int) (r : Bool) (w : World) (hr0_0 : Kd.C (Kd.int .i64) w A0_0 l0_0.length l0_0) (hc0_0 : l0_0.length ≤ c0_0) (hr0_1 : Kd.C k95 w A0_1 l0_1.length l0_1) (hc0_1 : l0_1.length ≤ c0_1) (h : ferrulelaw23_CertLonger.f l0_0 l0_1 a1 a2 = some r) :
 Calls Try.prog 8 #[.agg #[.slice A0_0 l0_0.length c0_0, .slice A0_1 l0_1.length c0_1], .int .u16 a1, .int .u8 a2] w fun e w' => e = .returned (.bool r) ∧ Below w.heap.size w w' := by
 unfold ferrulelaw23_CertLonger.f at h
 split at h
 case isFalse => cases h
 case isTrue hx =>
  obtain rfl := Option.some.inj h
  exact Crt.longer_calls w hr0_0 hc0_0 hr0_1 hc0_1 a1 a2 hx.1 hx.2

def ferrulelaw23_CertLonger.Pure : Prop := ∀ (l0_0 : List Int) (l0_1 : List (S95)) (a1 : Int) (a2 : Int), (fun l : (List Int) => l.length ≤ maxLen ∧ ∀ x ∈ l, (fun x : Int => (Lit.int .i64 x).wf = true) x) l0_0 → (fun l : (List S95) => l.length ≤ maxLen ∧ ∀ x ∈ l, v95 x) l0_1 → (Lit.int .u16 a1).wf = true → (Lit.int .u8 a2).wf = true → ferrulelaw23_CertLonger.f l0_0 l0_1 a1 a2 = some true

end Go.Proofs.Ytcebjhbphcoboaa.C
