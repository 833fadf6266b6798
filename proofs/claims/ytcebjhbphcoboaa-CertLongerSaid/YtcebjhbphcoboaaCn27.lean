-- Written by a program of this session (wip/xp), out of the translation. Not trusted: Lean checks it.
import Derived.Test.YtcebjhbphcoboaaC0
import Derived.Test.YtcebjhbphcoboaaCm
-- shrunk
namespace Go.Proofs.Ytcebjhbphcoboaa.C
open Go.RowKit Go.Proofs.YtcebjhbphcoboaaW.PrintWords Go.Proofs.YtcebjhbphcoboaaW.PrintLast Go.Proofs.YtcebjhbphcoboaaW.PrintMore
attribute [local go_sem] Lab.str_gtr Lab.str_leq Lab.str_geq max2_int min2_int max_two min_two max_three min_three max_four min_four   -- for this text's walks alone
set_option linter.unusedVariables false
set_option linter.unusedSimpArgs false

/-! ### cert_Bytes: function 27 -/
-- imports: Derived.Test.YtcebjhbphcoboaaCm
/-- Of a certificate of few parts. -/
def cert_Bytes.f (l0 : List Int) (l1 : List S95) : Option (List Int × Int) := if Crt.fewP l0 l1 = true then (if Crt.goodG l0 l1 = true then some (Crt.bytesP l0 l1, 0) else some ([], 3)) else none
theorem cert_Bytes.calls (A0 : Option Addr) (c0 : Nat) (l0 : List Int) (A1 : Option Addr) (c1 : Nat) (l1 : List S95) (r1 : List Int) (r2 : Int) (w : World) (hr0 : Kd.C (Kd.int .i64) w A0 l0.length l0) (hc0 : l0.length ≤ c0) (hr1 : Kd.C k95 w A1 l1.length l1) (hc1 : l1.length ≤ c1) (h : cert_Bytes.f l0 l1 = some (r1, r2)) :
 Calls Try.prog 27 #[.agg #[.slice A0 l0.length c0, .slice A1 l1.length c1]] w fun e w' => ∃ v0_ : Value, e = .returned (.tuple #[v0_, .int .i64 r2]) ∧ Kd.R (Kd.int .u8) 5 w' w.heap.size (fun _ => True) v0_ r1 ∧ Below w.heap.size w w' := by
 unfold cert_Bytes.f at h
 split at h
 case isFalse => cases h
 case isTrue hf =>
  split at h
  case isTrue hg =>
   obtain ⟨rfl, rfl⟩ := Prod.mk.inj (Option.some.inj h)
   exact Crt.bytesC_calls w hr0 hc0 hr1 hc1 hf hg
  case isFalse hg =>
   obtain ⟨rfl, rfl⟩ := Prod.mk.inj (Option.some.inj h)
   exact Crt.bytes_none w hr0 hc0 hr1 hc1 hf hg

end Go.Proofs.Ytcebjhbphcoboaa.C
