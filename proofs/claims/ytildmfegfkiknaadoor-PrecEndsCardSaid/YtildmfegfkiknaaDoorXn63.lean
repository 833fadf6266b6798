-- Written by a program of this session (wip/xp), out of the translation. Not trusted: Lean checks it.
import Derived.Test.YtildmfegfkiknaaDoorX0
import Derived.Shelf.Strings.OnBuilder
import Derived.Test.YtildmfegfkiknaaDoorLayJoin
-- shrunk
namespace Go.Proofs.YtildmfegfkiknaaDoor.X
open Go.RowKit Go.Proofs.YtildmfegfkiknaaDoorW.PrintWords Go.Proofs.YtildmfegfkiknaaDoorW.PrintLast Go.Proofs.YtildmfegfkiknaaDoorW.PrintMore
attribute [local go_sem] Lab.str_gtr Lab.str_leq Lab.str_geq max2_int min2_int max_two min_two max_three min_three max_four min_four   -- for this text's walks alone
set_option linter.unusedVariables false
set_option linter.unusedSimpArgs false

/-! ### strings_Join: function 63 -/
-- imports: Derived.Test.YtildmfegfkiknaaDoorLayJoin Derived.Shelf.Strings.OnBuilder
def strings_Join.f (l0 : List ByteArray) (a1 : ByteArray) : Option ByteArray := if l0.length ≤ 140737488355328 ∧ (Lib.join (l0.map (·.data.toList)) a1.data.toList).length ≤ 140737488355328 then some ⟨(Lib.join (l0.map (·.data.toList)) a1.data.toList).toArray⟩ else none
theorem strings_Join.extra : Builder.Extra Tryd.prog Tryd.lays156_ren where
 sizeBuilder := by kernel_rfl
 liesBuilder := by kernel_rfl
 t5 := Tryd.underlying5
 a5 := Tryd.isAgg5
 z5 := Tryd.sizeOf5
 v5 := Tryd.zeroValue5
 infoByte := by kernel_rfl
 cellsByte := by kernel_rfl
 sizeByte := by kernel_rfl
 neB5 := by decide
theorem strings_Join.calls (A0 : Option Addr) (c0 : Nat) (l0 : List ByteArray) (a1 : ByteArray) (r : ByteArray) (w : World) (hr0 : Kd.C Kd.string w A0 l0.length l0) (hc0 : l0.length ≤ c0) (h : strings_Join.f l0 a1 = some r) :
  Calls Tryd.prog 63 #[.slice A0 l0.length c0, .string a1] w fun e w' => e = .returned (.string r) ∧ Below w.heap.size w w' := by
 unfold strings_Join.f at h
 split at h
 case isFalse => cases h
 case isTrue hc =>
 obtain rfl := Option.some.inj h
 cases l0 with
 | nil => exact (Any.strings_Join_none Tryd.lays156 strings_Join.extra A0 c0 a1 w).mono fun e w' ⟨he, hw⟩ => ⟨he, hw ▸ Below.refl _ _⟩
 | cons x xs =>
  obtain ⟨_, _, hp⟩ := hr0
  obtain ⟨⟨b, o, sp⟩, rfl, hcell⟩ := hp (by simp)
  have hcell2 : ∀ (j : Nat) y, (x :: xs)[j]? = some y → w.cell? ((⟨b, o, sp⟩ : Addr).add j) = some (.string y) := by
   intro j y hj
   obtain ⟨c, _, hk, hi⟩ := hcell j y hj
   obtain rfl : c = [Value.string y] := hk
   have := hi 0 _ rfl
   rwa [show j * Kd.string.sz + 0 = j from by show j * 1 + 0 = j; omega] at this
  have h0 := hcell2 0 x rfl
  have hsp : sp = none := by
   cases sp with
   | none => rfl
   | some s =>
    rw [show (⟨b, o, some s⟩ : Addr).add 0 = ⟨b, o, some s⟩ from rfl] at h0
    unfold World.cell? at h0
    split at h0 <;> simp at h0
  subst hsp
  have hb : b < w.heap.size := by
   rw [show (⟨b, o, none⟩ : Addr).add 0 = ⟨b, o, none⟩ from rfl] at h0
   unfold World.cell? at h0
   split at h0
   ·rename_i hh; exact blk_lt hh
   ·cases h0
  exact Any.strings_Join Tryd.lays156 strings_Join.extra b o c0 (x :: xs) a1 w (fun j y hj => by have := hcell2 j y hj; rwa [show (⟨b, o, none⟩ : Addr).add j = ⟨b, o + j, none⟩ from by unfold Addr.add; split <;> simp_all] at this) hb hc.1 hc0 hc.2

end Go.Proofs.YtildmfegfkiknaaDoor.X
