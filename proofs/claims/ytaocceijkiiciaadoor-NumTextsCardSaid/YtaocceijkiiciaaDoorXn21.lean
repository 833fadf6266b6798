-- Written by a program of this session (wip/xp), out of the translation. Not trusted: Lean checks it.
import Derived.Test.YtaocceijkiiciaaDoorTab
import Derived.Test.YtaocceijkiiciaaDoorX0
import Derived.Test.YtaocceijkiiciaaDoorXn35
-- shrunk
namespace Go.Proofs.YtaocceijkiiciaaDoor.X
open Go.RowKit Go.Proofs.YtaocceijkiiciaaDoorW.PrintWords Go.Proofs.YtaocceijkiiciaaDoorW.PrintLast Go.Proofs.YtaocceijkiiciaaDoorW.PrintMore
attribute [local go_sem] Lab.str_gtr Lab.str_leq Lab.str_geq max2_int min2_int max_two min_two max_three min_three max_four min_four   -- for this text's walks alone
set_option linter.unusedVariables false
set_option linter.unusedSimpArgs false

/-! ### strconv_FormatUint_21: function 21 -/
def strconv_FormatUint_21.f (a0 : Int) (a1 : Int) : Option (ByteArray) := (strconv_FormatUint_35.f a0 a1).bind fun t101 => (some t101)
set_option maxHeartbeats 8000000 in
set_option maxRecDepth 100000 in
theorem strconv_FormatUint_21.calls (a0 : Int) (a1 : Int) (r : ByteArray) (w : World) (h : strconv_FormatUint_21.f a0 a1 = some r) (TT : Tab w) :
  Calls Tryd.prog 21 #[.int .u64 a0, .int .i64 a1] w fun e w' => e = .returned (.string r) ∧ Below w.heap.size w w' := by
 have HB := Aside0.mk (Below.refl w.heap.size w)
 have H : ((strconv_FormatUint_35.f a0 a1).bind fun t101 => (some t101)) = some r := h
 clear h
 replace H := Option.bind_eq_some_iff.mp H
 obtain ⟨t101, A30, H⟩ := H
 replace H : (some t101) = some r := H
 have A3 := Aside0.mk A30
 clear A30
 obtain rfl := Option.some.inj H
 go_enter Tryd.func21, Tryd.ntmps21
 go_wp2_with (first | ((with_reducible refine gate_callee (f := 35) rfl ?_); refine goesL_ (some 7) rfl rfl Tryd.func35 (by kernel_rfl) rfl #[.int .u64 a0, .int .i64 a1] rfl bM ?_; (with_reducible refine (strconv_FormatUint_35.calls a0 a1 t101 _ A3.out (tB TT HB)).mono ?_); rintro e w4 ⟨rfl, hb⟩; refine ⟨_, rfl, ?_⟩; replace HB := aB HB hb; (try clear hb); (try clear hb2); (try clear hk); (try clear hi)))
 go_ret
 exact ⟨by first | rfl | (simp [errW_none, errW_some] <;> rfl) | (simp [*, errW_none, errW_some] <;> rfl), bB⟩

end Go.Proofs.YtaocceijkiiciaaDoor.X
