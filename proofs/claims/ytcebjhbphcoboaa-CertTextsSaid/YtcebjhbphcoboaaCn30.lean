-- Written by a program of this session (wip/xp), out of the translation. Not trusted: Lean checks it.
import Derived.Test.YtcebjhbphcoboaaC0
import Derived.Test.YtcebjhbphcoboaaCm
-- shrunk
namespace Go.Proofs.Ytcebjhbphcoboaa.C
open Go.RowKit Go.Proofs.YtcebjhbphcoboaaW.PrintWords Go.Proofs.YtcebjhbphcoboaaW.PrintLast Go.Proofs.YtcebjhbphcoboaaW.PrintMore
attribute [local go_sem] Lab.str_gtr Lab.str_leq Lab.str_geq max2_int min2_int max_two min_two max_three min_three max_four min_four   -- for this text's walks alone
set_option linter.unusedVariables false
set_option linter.unusedSimpArgs false

/-! ### cert_Read: function 30 -/
-- imports: Derived.Test.YtcebjhbphcoboaaCm
/-- Of bytes that begin as told, or are shorter than that. -/
def cert_Read.f (l0 : List Int) : Option (List Int × List S95 × Int × Int) := if l0.length ≤ 1000000000 ∧ (l0.length < 2 ∨ l0.take 2 = [70, 67]) then some (Crt.readP l0) else none
theorem cert_Read.calls (A0 : Option Addr) (c0 : Nat) (l0 : List Int) (r1 : List Int) (r2 : List S95) (r3 r4 : Int) (w : World) (hr0 : Kd.C (Kd.int .u8) w A0 l0.length l0) (hc0 : l0.length ≤ c0) (h : cert_Read.f l0 = some (r1, r2, r3, r4)) :
 Calls Try.prog 30 #[.slice A0 l0.length c0] w fun e w' => ∃ v0_ v1_ : Value, e = .returned (.tuple #[.agg #[v0_, v1_], .int .i64 r3, .int .i64 r4]) ∧ Kd.R (Kd.int .i64) 3 w' w.heap.size (fun _ => True) v0_ r1 ∧ Kd.R k95 95 w' w.heap.size (fun k_ => some k_ ≠ (v0_ : Value).ownBlock) v1_ r2 ∧ Below w.heap.size w w' := by
 unfold cert_Read.f at h
 split at h
 case isFalse => cases h
 case isTrue hf =>
  have h := Option.some.inj h
  refine (Crt.read_calls hr0 hc0 hf.1 hf.2).mono ?_
  rintro e w' ⟨v1, v2, rfl, h1, h2, hB⟩
  rw [h] at h1 h2 ⊢
  exact ⟨v1, v2, rfl, Crt.R_of_own h1 (fun _ _ => trivial), h2, hB⟩

end Go.Proofs.Ytcebjhbphcoboaa.C
