-- Written by a program of this session (wip/xp), out of the translation. Not trusted: Lean checks it.
import Derived.Test.YtcebjhbphcoboaaX0
import Derived.Test.YtcebjhbphcoboaaXn13
-- shrunk
namespace Go.Proofs.Ytcebjhbphcoboaa.X
open Go.RowKit Go.Proofs.YtcebjhbphcoboaaW.PrintWords Go.Proofs.YtcebjhbphcoboaaW.PrintLast Go.Proofs.YtcebjhbphcoboaaW.PrintMore
attribute [local go_sem] Lab.str_gtr Lab.str_leq Lab.str_geq max2_int min2_int max_two min_two max_three min_three max_four min_four   -- for this text's walks alone
set_option linter.unusedVariables false
set_option linter.unusedSimpArgs false

/-! ### name_Good: function 15 -/
def name_Good.f (k : Nat) (a0 : ByteArray) : Option (Bool) := if a0.size ≤ 9223372036854775807 then ((name_Scan.f k (bytesOf a0) 0).bind fun bt103 => (if bt103.2 = 0 then (some (bt103.1 == (a0.size : Int))) else (some false))) else (none)
theorem name_Good.mono : ∀ a0 k, LeO (name_Good.f k a0) (name_Good.f (k + 1) a0) := by
 intro a0 k
 unfold name_Good.f
 repeat' first
   | (with_reducible exact name_Scan.mono _ _ _)
   | (with_reducible exact LeO.refl _)
   | (with_reducible exact LeO.none _)
   | (with_reducible refine LeO.ite ?_ ?_)
   | (with_reducible refine LeO.bind ?_ (fun _ => ?_))
   | exact name_Scan.mono _ _ _
   | exact LeO.none _
   | refine LeO.ite ?_ ?_
   | refine LeO.bind ?_ (fun _ => ?_)
set_option maxHeartbeats 8000000 in
set_option maxRecDepth 100000 in
theorem name_Good.calls (k : Nat) (a0 : ByteArray) (r : Bool) (w : World) (h : name_Good.f k a0 = some r) :
  Calls Try.prog 15 #[.string a0] w fun e w' => e = .returned (.bool r) ∧ Below w.heap.size w w' := by
 have HB := Aside0.mk (Below.refl w.heap.size w)
 have H : (if a0.size ≤ 9223372036854775807 then ((name_Scan.f k (bytesOf a0) 0).bind fun bt103 => (if bt103.2 = 0 then (some (bt103.1 == (a0.size : Int))) else (some false))) else (none)) = some r := h
 clear h
 by_cases c2 : a0.size ≤ 9223372036854775807
 ·rw [if_pos c2] at H
  have c2b0 := eq_true c2
  have c2b1 : decide (a0.size ≤ 9223372036854775807) = true := decide_eq_true c2
  try have c2b2 : (9223372036854775807 < a0.size) = False := eq_false (Nat.not_lt.2 c2)
  clear c2
  obtain ⟨y101, hy101⟩ : ∃ y_ : List Int, y_ = (bytesOf a0) := ⟨_, rfl⟩
  replace H : ((name_Scan.f k y101 0).bind fun bt103 => (if bt103.2 = 0 then (some (bt103.1 == (a0.size : Int))) else (some false))) = some r := by first | (rw [hy101]; with_reducible exact H) | (have H2_ := (Option.bind_some _ _).symm.trans H; rw [hy101]; with_reducible exact H2_) | (have H2_ := (Option.bind_some _ _).symm.trans H; with_reducible exact H2_) | with_reducible exact H | (rw [hy101]; exact H) | exact H
  have Ny101 := Aside0.mk hy101
  clear hy101
  replace H := Option.bind_eq_some_iff.mp H
  obtain ⟨⟨t103, t104⟩, A30, H⟩ := H
  replace H : (if t104 = 0 then (some (t103 == (a0.size : Int))) else (some false)) = some r := H
  have A3 := Aside0.mk A30
  clear A30
  by_cases c4 : t104 = 0
  ·rw [if_pos c4] at H
   have c4b0 : (t104 == 0) = true := beq_iff_eq.mpr c4
   have c4b1 : (t104 != 0) = false := bne_eq_false_iff_eq.mpr c4
   clear c4
   obtain rfl := Option.some.inj H
   go_enter Try.func15, Try.ntmps15
   go_wp2_with (first | ((with_reducible refine gate_dst (N := 7) rfl ?_); (try (refine gate_guard (by rfl) ?_; dsimp only)); refine Lab.bytes_event (N := 7) (s := a0) (x := .tmp 6) ?hg ?hd ?ho ?hx Try.underlying9 Try.underlying22 Try.underlying5 ?hz ?_; (case hd => rfl); (case hg => rfl); (case ho => rfl); (case hx => first | rfl | (simp; done)); (case hz => first | exact oD | (simp; done) | (rw [ByteArray.size_append]; first | assumption | exact of_decide_eq_true (by assumption))); intro Az102 cz102 w5 hC_ hR_ hb; rw [← Ny101.out] at hC_ hR_; (try rw [← Ny101.out]); replace HB := aB HB hb; have HR102 := Aside0.mk hC_; have HC102 := Aside0.mk hR_; (try clear hb); (try clear hC_); (try clear hR_)) | ((with_reducible refine gate_callee (f := 13) rfl ?_); refine goesL_ (some 8) rfl rfl Try.func13 (by kernel_rfl) rfl #[.slice Az102 y101.length cz102, .int .i64 0] rfl bM ?_; (with_reducible refine (name_Scan.calls k _ _ y101 0 t103 t104 _ ?side1 ?side2 A3.out).mono ?_); (case side1 => exact aCw HR102); (case side2 => exact HC102.out); rintro e w' ⟨rfl, ⟨nd, rfl⟩⟩; refine ⟨_, rfl, ?_⟩))
   go_ret
   exact ⟨by first | rfl | (simp [errW_none, errW_some] <;> rfl) | (simp [*, errW_none, errW_some] <;> rfl), bB⟩
  ·rw [if_neg c4] at H
   have c4b0 : (t104 == 0) = false := beq_eq_false_iff_ne.mpr c4
   have c4b1 : (t104 != 0) = true := bne_iff_ne.mpr c4
   obtain rfl := Option.some.inj H
   go_enter Try.func15, Try.ntmps15
   go_wp2_with (first | ((with_reducible refine gate_dst (N := 7) rfl ?_); (try (refine gate_guard (by rfl) ?_; dsimp only)); refine Lab.bytes_event (N := 7) (s := a0) (x := .tmp 6) ?hg ?hd ?ho ?hx Try.underlying9 Try.underlying22 Try.underlying5 ?hz ?_; (case hd => rfl); (case hg => rfl); (case ho => rfl); (case hx => first | rfl | (simp; done)); (case hz => first | exact oD | (simp; done) | (rw [ByteArray.size_append]; first | assumption | exact of_decide_eq_true (by assumption))); intro Az102 cz102 w6 hC_ hR_ hb; rw [← Ny101.out] at hC_ hR_; (try rw [← Ny101.out]); replace HB := aB HB hb; have HR102 := Aside0.mk hC_; have HC102 := Aside0.mk hR_; (try clear hb); (try clear hC_); (try clear hR_)) | ((with_reducible refine gate_callee (f := 13) rfl ?_); refine goesL_ (some 8) rfl rfl Try.func13 (by kernel_rfl) rfl #[.slice Az102 y101.length cz102, .int .i64 0] rfl bM ?_; (with_reducible refine (name_Scan.calls k _ _ y101 0 t103 t104 _ ?side1 ?side2 A3.out).mono ?_); (case side1 => exact aCw HR102); (case side2 => exact HC102.out); rintro e w' ⟨rfl, ⟨nd, rfl⟩⟩; refine ⟨_, rfl, ?_⟩))
   go_ret
   exact ⟨by first | rfl | (simp [errW_none, errW_some] <;> rfl) | (simp [*, errW_none, errW_some] <;> rfl), bB⟩
 ·rw [if_neg c2] at H
  exact absurd H (by simp)

end Go.Proofs.Ytcebjhbphcoboaa.X
