-- Written by a program of this session (wip/xp), out of the translation. Not trusted: Lean checks it.
import Derived.Test.YtaocceijkiiciaaDoorX0
import Derived.BigCall
import Derived.BigGuard
import Derived.LaidSub
import Derived.Lib.AppendIntMem
import Derived.Lib.ItoaWalk
import Derived.Test.YtaocceijkiiciaaDoorLayFmt
import Derived.Test.YtaocceijkiiciaaDoorTab
-- shrunk
namespace Go.Proofs.YtaocceijkiiciaaDoor.X
open Go.RowKit Go.Proofs.YtaocceijkiiciaaDoorW.PrintWords Go.Proofs.YtaocceijkiiciaaDoorW.PrintLast Go.Proofs.YtaocceijkiiciaaDoorW.PrintMore
attribute [local go_sem] Lab.str_gtr Lab.str_leq Lab.str_geq max2_int min2_int max_two min_two max_three min_three max_four min_four   -- for this text's walks alone
set_option linter.unusedVariables false
set_option linter.unusedSimpArgs false

/-! ### strconv_FormatUint_35: function 35 -/
-- imports: Derived.Test.YtaocceijkiiciaaDoorLayFmt Derived.Test.YtaocceijkiiciaaDoorTab Derived.LaidSub Derived.Lib.AppendIntMem Derived.Lib.ItoaWalk Derived.BigCall Derived.BigGuard
def strconv_FormatUint_35.f (a0 a1 : Int) : Option ByteArray := if a1 = 10 ∧ 0 ≤ a0 ∧ a0 < 18446744073709551616 then some ⟨(Lib.decDigits a0.toNat).toArray⟩ else none
open Go.Sort Go.Lib Go.Shelf in
set_option maxHeartbeats 12800000 in
set_option maxRecDepth 100000 in
theorem strconv_FormatUint_35.calls (a0 a1 : Int) (r : ByteArray) (w : World) (h : strconv_FormatUint_35.f a0 a1 = some r) (TT : Tab w) :
  Calls Tryd.prog 35 #[.int .u64 a0, .int .i64 a1] w fun e w' => e = .returned (.string r) ∧ Below w.heap.size w w' := by
 unfold strconv_FormatUint_35.f at h
 split at h
 case isFalse => cases h
 case isTrue hc =>
 obtain ⟨rfl, h0, h1⟩ := hc
 obtain ⟨u, rfl⟩ : ∃ u : Nat, a0 = u := ⟨a0.toNat, by omega⟩
 obtain rfl := Option.some.inj h
 clear h
 rw [show ((u : Int)).toNat = u by omega]
 have hu64 : u < 18446744073709551616 := by omega
 clear h1
 by_cases hs : u < 100
 ·have hsm : ∀ w, Calls Tryd.prog 42 #[.int .i64 u] w (fun e w' => e = .returned (.string ⟨(Lib.decDigits u).toArray⟩) ∧ w' = w) := fun w => Any.internal_strconv_small Tryd.lays283 u hs w
  go_enter Tryd.func35, Tryd.ntmps35
  go_wp2_with (go_at_call 42; refine (hsm _).mono ?_; rintro e w' ⟨rfl, rfl⟩)
  go_ret
  exact ⟨rfl, Below.refl _ _⟩
 ·have hu1 : 1 ≤ u := by omega
  have hnd20 : Lib.nDigits u ≤ 20 := by have := Lib.numDigits_eq u hu1 hu64; split at this <;> omega
  have hal : Tryd.prog.arrayLen 67 = 24 := by simp [Program.arrayLen, Tryd.underlying67]
  have hsl : ∀ W, (Instr.sliceAt 67 (.pointer (some ⟨w.heap.size, 0, none⟩)) none (some (.int .i64 (Lib.nDigits u : Int))) none).run Tryd.prog W = .ok (.slice (some ⟨w.heap.size, 0, none⟩) (Lib.nDigits u) 24) W := fun W => by
   rw [run_sliceAt_array_h W 67 ⟨w.heap.size, 0, none⟩ (by simp [Program.arrayLen, Program.elem, Tryd.underlying67]) .i64 (Lib.nDigits u : Int) (by omega) (by rw [hal]; omega)]
   go_simp
  have hH0 := Lib.holds_zero0 w 67 (Lib.nDigits u) (by omega)
  have hfmt : Calls Tryd.prog 44 #[.slice (some ⟨w.heap.size, 0, none⟩) (Array.replicate (Lib.nDigits u) (0 : UInt8)).size 24, .int .u64 u] (w.alloc (.cells Lib.zeros24 67)) _ := Any.internal_strconv_formatBase10 Tryd.lays285 w.heap.size 0 24 u (Array.replicate (Lib.nDigits u) 0) (w.alloc (.cells Lib.zeros24 67)) hH0 (by rw [Array.size_replicate]; exact Lib.lt_pow_nDigits u) hu64 (by rw [Array.size_replicate]; omega)
  rw [Array.size_replicate] at hfmt
  have hnd : ∀ w, Tab w → Calls Tryd.prog 43 #[.int .u64 u] w (fun e w' => e = .returned (.int .i64 (Lib.nDigits u)) ∧ w' = w) := fun w T => Any.internal_strconv_numDigits Tryd.lays284 u hu1 hu64 w T
  have HH0 := Lib.hid hH0
  have iu : (100 : Int) ≤ (u : Int) := by omega
  clear hH0 hal
  go_enter Tryd.func35, Tryd.ntmps35
  go_wp2_with (first
   | (go_at_call 43; refine (hnd _ (Lib.tabIs_alloc TT _)).mono ?_; rintro e w' ⟨rfl, rfl⟩))
  go_at_call 44
  refine hfmt.mono ?_
  rintro e w' ⟨rfl, k, v', dk, rfl, hF⟩
  have hcv : (convert 29 9 (.slice (some ⟨w.heap.size, 0, none⟩) (Lib.nDigits u) 24)).run Tryd.prog ((putRow (fun (b : UInt8) => Value.int .u8 (b.toNat : Int)) (w.alloc (.cells Lib.zeros24 67)) w.heap.size 0 dk).drewN k) = .ok (.string ⟨(Lib.decDigits u).toArray⟩) ((putRow (fun (b : UInt8) => Value.int .u8 (b.toNat : Int)) (w.alloc (.cells Lib.zeros24 67)) w.heap.size 0 dk).drewN k) := by
   have h := run_convert_bytes_back (P := Tryd.prog) ((putRow (fun (b : UInt8) => Value.int .u8 (b.toNat : Int)) (w.alloc (.cells Lib.zeros24 67)) w.heap.size 0 dk).drewN k) 29 9 5 ⟨w.heap.size, 0, none⟩ 24 (Lib.decDigits u) Tryd.underlying29 Tryd.underlying5 Tryd.underlying9 (fun j hj => by
    rw [Lib.row_is_numeral hF j hj, Lib.add_plain, World.cell?_drewN]
    exact cell?_putRow (fun (b : UInt8) => Value.int .u8 (b.toNat : Int)) _ w.heap.size 0 _ dk HH0.out (by rw [hF.size, Array.size_replicate]) j (by rw [hF.size]; rw [Lib.decDigits_length] at hj; exact hj))
   rw [Lib.decDigits_length] at h
   exact h
  go_wp2
  go_ret
  obtain ⟨os, eo⟩ := Lib.fin_at w (.cells Lib.zeros24 67) dk k 0
  refine ⟨rfl, ?_⟩
  rw [eo]
  exact Lib.below_grow _ w (Nat.le_refl _) k os
/-- From a row's condition: the table is one of those that are laid. -/
theorem tab_of_laid {l : List (String × DataW Unit)} {w : World} (h : laidMetH Tryd.prog l w)
  (hf : (l.filter fun x => x.1 == "internal/strconv.uint64pow10") = [("internal/strconv.uint64pow10", Lib.tabData .u64 Lib.pow10Tab)]) : Tab w := by
 have h2 := h.filter (fun x => x.1 == "internal/strconv.uint64pow10")
 rw [hf] at h2
 replace h2 : laidMet Tryd.prog [("internal/strconv.uint64pow10", Lib.tabData .u64 Lib.pow10Tab)] w := h2
 exact Lib.tabIs_of_head (t := 75) (e := 22) (n := 20) Tryd.lays284.m17 (by kernel_rfl) Tryd.underlying75 Tryd.underlying22 (by kernel_rfl) (by kernel_rfl) h2

end Go.Proofs.YtaocceijkiiciaaDoor.X
