-- Written by a program of this session (wip/xp), out of the translation. Not trusted: Lean checks it.
import Derived.Test.YtcebjhbphcoboaaX0
import Derived.Test.YtcebjhbphcoboaaTbn
-- shrunk
namespace Go.Proofs.Ytcebjhbphcoboaa.X
open Go.RowKit Go.Proofs.YtcebjhbphcoboaaW.PrintWords Go.Proofs.YtcebjhbphcoboaaW.PrintLast Go.Proofs.YtcebjhbphcoboaaW.PrintMore
attribute [local go_sem] Lab.str_gtr Lab.str_leq Lab.str_geq max2_int min2_int max_two min_two max_three min_three max_four min_four   -- for this text's walks alone
set_option linter.unusedVariables false
set_option linter.unusedSimpArgs false

/-! ### ferrulelaw08_NameTables: function 6 -/
-- imports: Derived.Test.YtcebjhbphcoboaaTbn
def ferrulelaw08_NameTables.f (l0 : List ByteArray) (a1 : ByteArray) : Option Bool := some true
theorem ferrulelaw08_NameTables.calls (A0 : Option Addr) (c0 : Nat) (l0 : List ByteArray) (a1 : ByteArray) (r : Bool) (w : World) (hr0 : Kd.C Kd.string w A0 l0.length l0) (hc0 : l0.length ≤ c0) (h : ferrulelaw08_NameTables.f l0 a1 = some r) :
 Calls Try.prog 6 #[.slice A0 l0.length c0, .string a1] w fun e w' => e = .returned (.bool r) ∧ Below w.heap.size w w' := by
 obtain rfl := Option.some.inj h
 exact Tbl.tables_calls A0 c0 l0 a1 w hr0 hc0

def ferrulelaw08_NameTables.Pure : Prop := ∀ (l0 : List ByteArray) (a1 : ByteArray), (fun l : (List ByteArray) => l.length ≤ maxLen ∧ ∀ x ∈ l, (fun s : ByteArray => s.size ≤ maxLen) x) l0 → a1.size ≤ 140737488351232 → ferrulelaw08_NameTables.f l0 a1 = some true

end Go.Proofs.Ytcebjhbphcoboaa.X
