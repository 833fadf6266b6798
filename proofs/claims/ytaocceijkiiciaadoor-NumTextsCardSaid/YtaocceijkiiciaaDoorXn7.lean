-- Written by a program of this session (wip/xp), out of the translation. Not trusted: Lean checks it.
import Derived.Test.YtaocceijkiiciaaDoorX0
import Derived.Test.YtaocceijkiiciaaDoorXn11
-- shrunk
namespace Go.Proofs.YtaocceijkiiciaaDoor.X
open Go.RowKit Go.Proofs.YtaocceijkiiciaaDoorW.PrintWords Go.Proofs.YtaocceijkiiciaaDoorW.PrintLast Go.Proofs.YtaocceijkiiciaaDoorW.PrintMore
attribute [local go_sem] Lab.str_gtr Lab.str_leq Lab.str_geq max2_int min2_int max_two min_two max_three min_three max_four min_four   -- for this text's walks alone
set_option linter.unusedVariables false
set_option linter.unusedSimpArgs false

/-! ### ferrulelaw01_awake: function 7 -/
def ferrulelaw01_awake.f (k : Nat)  : Option (Bool) := (num_Parse.f k (([49, 50, 48, 46, 51] : List Int)) 0).bind fun bt103 => ((num_Parse.f k (([48, 48, 55] : List Int)) 0).bind fun bt108 => (if bt103.1 = 120 then (if bt103.2.1 = 3 then (if bt103.2.2 = 0 then (some (bt108.2.2 == 3)) else (some false)) else (some false)) else (some false)))
theorem ferrulelaw01_awake.mono : ∀ k, LeO (ferrulelaw01_awake.f k ) (ferrulelaw01_awake.f (k + 1) ) := by
 intro  k
 unfold ferrulelaw01_awake.f
 repeat' first
   | (with_reducible exact num_Parse.mono _ _ _)
   | (with_reducible exact LeO.refl _)
   | (with_reducible exact LeO.none _)
   | (with_reducible refine LeO.ite ?_ ?_)
   | (with_reducible refine LeO.bind ?_ (fun _ => ?_))
   | exact num_Parse.mono _ _ _
   | exact LeO.none _
   | refine LeO.ite ?_ ?_
   | refine LeO.bind ?_ (fun _ => ?_)
set_option maxHeartbeats 8000000 in
set_option maxRecDepth 100000 in
theorem ferrulelaw01_awake.calls (k : Nat)  (r : Bool) (w : World) (h : ferrulelaw01_awake.f k  = some r) :
  Calls Tryd.prog 7 #[] w fun e w' => e = .returned (.bool r) ∧ Below w.heap.size w w' := by
 have HB := Aside0.mk (Below.refl w.heap.size w)
 have H : ((num_Parse.f k (([49, 50, 48, 46, 51] : List Int)) 0).bind fun bt103 => ((num_Parse.f k (([48, 48, 55] : List Int)) 0).bind fun bt108 => (if bt103.1 = 120 then (if bt103.2.1 = 3 then (if bt103.2.2 = 0 then (some (bt108.2.2 == 3)) else (some false)) else (some false)) else (some false)))) = some r := h
 clear h
 obtain ⟨y101, hy101⟩ : ∃ y_ : List Int, y_ = (([49, 50, 48, 46, 51] : List Int)) := ⟨_, rfl⟩
 replace H : ((num_Parse.f k y101 0).bind fun bt103 => ((num_Parse.f k (([48, 48, 55] : List Int)) 0).bind fun bt108 => (if bt103.1 = 120 then (if bt103.2.1 = 3 then (if bt103.2.2 = 0 then (some (bt108.2.2 == 3)) else (some false)) else (some false)) else (some false)))) = some r := by first | (rw [hy101]; with_reducible exact H) | (have H2_ := (Option.bind_some _ _).symm.trans H; rw [hy101]; with_reducible exact H2_) | (have H2_ := (Option.bind_some _ _).symm.trans H; with_reducible exact H2_) | with_reducible exact H | (rw [hy101]; exact H) | exact H
 have Ny101 := Aside0.mk hy101
 clear hy101
 replace H := Option.bind_eq_some_iff.mp H
 obtain ⟨⟨t103, t104, t105⟩, A10, H⟩ := H
 replace H : ((num_Parse.f k (([48, 48, 55] : List Int)) 0).bind fun bt108 => (if t103 = 120 then (if t104 = 3 then (if t105 = 0 then (some (bt108.2.2 == 3)) else (some false)) else (some false)) else (some false))) = some r := H
 have A1 := Aside0.mk A10
 clear A10
 obtain ⟨y106, hy106⟩ : ∃ y_ : List Int, y_ = (([48, 48, 55] : List Int)) := ⟨_, rfl⟩
 replace H : ((num_Parse.f k y106 0).bind fun bt108 => (if t103 = 120 then (if t104 = 3 then (if t105 = 0 then (some (bt108.2.2 == 3)) else (some false)) else (some false)) else (some false))) = some r := by first | (rw [hy106]; with_reducible exact H) | (have H2_ := (Option.bind_some _ _).symm.trans H; rw [hy106]; with_reducible exact H2_) | (have H2_ := (Option.bind_some _ _).symm.trans H; with_reducible exact H2_) | with_reducible exact H | (rw [hy106]; exact H) | exact H
 have Ny106 := Aside0.mk hy106
 clear hy106
 replace H := Option.bind_eq_some_iff.mp H
 obtain ⟨⟨t108, t109, t110⟩, A20, H⟩ := H
 replace H : (if t103 = 120 then (if t104 = 3 then (if t105 = 0 then (some (t110 == 3)) else (some false)) else (some false)) else (some false)) = some r := H
 have A2 := Aside0.mk A20
 clear A20
 by_cases c3 : t103 = 120
 ·rw [if_pos c3] at H
  have c3b0 : (t103 == 120) = true := beq_iff_eq.mpr c3
  have c3b1 : (t103 != 120) = false := bne_eq_false_iff_eq.mpr c3
  clear c3
  by_cases c4 : t104 = 3
  ·rw [if_pos c4] at H
   have c4b0 : (t104 == 3) = true := beq_iff_eq.mpr c4
   have c4b1 : (t104 != 3) = false := bne_eq_false_iff_eq.mpr c4
   clear c4
   by_cases c5 : t105 = 0
   ·rw [if_pos c5] at H
    have c5b0 : (t105 == 0) = true := beq_iff_eq.mpr c5
    have c5b1 : (t105 != 0) = false := bne_eq_false_iff_eq.mpr c5
    clear c5
    obtain rfl := Option.some.inj H
    go_enter Tryd.func7, Tryd.ntmps7
    go_wp2_with (first | ((with_reducible refine gate_dst (N := 9) rfl ?_); refine Lab.lit_event (N := 9) (x := .tmp 8) (xs := ([49, 50, 48, 46, 51] : List Int)) (cs := #[.int .u8 49, .int .u8 50, .int .u8 48, .int .u8 46, .int .u8 51]) ?hg ?hd ?ho ?hx Tryd.underlying29 Tryd.underlying5 ?hcs ?hz ?_; (case hd => rfl); (case hg => rfl); (case ho => rfl); (case hx => first | rfl | (simp; done)); (case hcs => rfl); (case hz => simp); intro Az102 cz102 w6 hC_ hR_ hb; rw [← Ny101.out] at hC_ hR_; (try rw [← Ny101.out]); replace HB := aB HB hb; have HR102 := Aside0.mk hC_; have HC102 := Aside0.mk hR_; (try clear hb); (try clear hC_); (try clear hR_)) | ((with_reducible refine gate_callee (f := 11) rfl ?_); refine goesL_ (some 10) rfl rfl Tryd.func11 (by kernel_rfl) rfl #[.slice Az102 y101.length cz102, .int .i64 0] rfl bM ?_; (with_reducible refine (num_Parse.calls k _ _ y101 0 t103 t104 t105 _ ?side1 ?side2 A1.out).mono ?_); (case side1 => exact aCw HR102); (case side2 => exact HC102.out); rintro e w' ⟨rfl, ⟨nd, rfl⟩⟩; refine ⟨_, rfl, ?_⟩) | ((with_reducible refine gate_dst (N := 16) rfl ?_); refine Lab.lit_event (N := 16) (x := .tmp 15) (xs := ([48, 48, 55] : List Int)) (cs := #[.int .u8 48, .int .u8 48, .int .u8 55]) ?hg ?hd ?ho ?hx Tryd.underlying29 Tryd.underlying5 ?hcs ?hz ?_; (case hd => rfl); (case hg => rfl); (case ho => rfl); (case hx => first | rfl | (simp; done)); (case hcs => rfl); (case hz => simp); intro Az107 cz107 w7 hC_ hR_ hb; rw [← Ny106.out] at hC_ hR_; (try rw [← Ny106.out]); replace HR102 := aC HR102 hb; replace HB := aB HB hb; have HR107 := Aside0.mk hC_; have HC107 := Aside0.mk hR_; (try clear hb); (try clear hC_); (try clear hR_)) | ((with_reducible refine gate_callee (f := 11) rfl ?_); refine goesL_ (some 17) rfl rfl Tryd.func11 (by kernel_rfl) rfl #[.slice Az107 y106.length cz107, .int .i64 0] rfl bM ?_; (with_reducible refine (num_Parse.calls k _ _ y106 0 t108 t109 t110 _ ?side1 ?side2 A2.out).mono ?_); (case side1 => exact aCw HR107); (case side2 => exact HC107.out); rintro e w' ⟨rfl, ⟨nd, rfl⟩⟩; refine ⟨_, rfl, ?_⟩))
    go_ret
    exact ⟨by first | rfl | (simp [errW_none, errW_some] <;> rfl) | (simp [*, errW_none, errW_some] <;> rfl), bB⟩
   ·rw [if_neg c5] at H
    have c5b0 : (t105 == 0) = false := beq_eq_false_iff_ne.mpr c5
    have c5b1 : (t105 != 0) = true := bne_iff_ne.mpr c5
    obtain rfl := Option.some.inj H
    go_enter Tryd.func7, Tryd.ntmps7
    go_wp2_with (first | ((with_reducible refine gate_dst (N := 9) rfl ?_); refine Lab.lit_event (N := 9) (x := .tmp 8) (xs := ([49, 50, 48, 46, 51] : List Int)) (cs := #[.int .u8 49, .int .u8 50, .int .u8 48, .int .u8 46, .int .u8 51]) ?hg ?hd ?ho ?hx Tryd.underlying29 Tryd.underlying5 ?hcs ?hz ?_; (case hd => rfl); (case hg => rfl); (case ho => rfl); (case hx => first | rfl | (simp; done)); (case hcs => rfl); (case hz => simp); intro Az102 cz102 w8 hC_ hR_ hb; rw [← Ny101.out] at hC_ hR_; (try rw [← Ny101.out]); replace HB := aB HB hb; have HR102 := Aside0.mk hC_; have HC102 := Aside0.mk hR_; (try clear hb); (try clear hC_); (try clear hR_)) | ((with_reducible refine gate_callee (f := 11) rfl ?_); refine goesL_ (some 10) rfl rfl Tryd.func11 (by kernel_rfl) rfl #[.slice Az102 y101.length cz102, .int .i64 0] rfl bM ?_; (with_reducible refine (num_Parse.calls k _ _ y101 0 t103 t104 t105 _ ?side1 ?side2 A1.out).mono ?_); (case side1 => exact aCw HR102); (case side2 => exact HC102.out); rintro e w' ⟨rfl, ⟨nd, rfl⟩⟩; refine ⟨_, rfl, ?_⟩) | ((with_reducible refine gate_dst (N := 16) rfl ?_); refine Lab.lit_event (N := 16) (x := .tmp 15) (xs := ([48, 48, 55] : List Int)) (cs := #[.int .u8 48, .int .u8 48, .int .u8 55]) ?hg ?hd ?ho ?hx Tryd.underlying29 Tryd.underlying5 ?hcs ?hz ?_; (case hd => rfl); (case hg => rfl); (case ho => rfl); (case hx => first | rfl | (simp; done)); (case hcs => rfl); (case hz => simp); intro Az107 cz107 w9 hC_ hR_ hb; rw [← Ny106.out] at hC_ hR_; (try rw [← Ny106.out]); replace HR102 := aC HR102 hb; replace HB := aB HB hb; have HR107 := Aside0.mk hC_; have HC107 := Aside0.mk hR_; (try clear hb); (try clear hC_); (try clear hR_)) | ((with_reducible refine gate_callee (f := 11) rfl ?_); refine goesL_ (some 17) rfl rfl Tryd.func11 (by kernel_rfl) rfl #[.slice Az107 y106.length cz107, .int .i64 0] rfl bM ?_; (with_reducible refine (num_Parse.calls k _ _ y106 0 t108 t109 t110 _ ?side1 ?side2 A2.out).mono ?_); (case side1 => exact aCw HR107); (case side2 => exact HC107.out); rintro e w' ⟨rfl, ⟨nd, rfl⟩⟩; refine ⟨_, rfl, ?_⟩))
    go_ret
    exact ⟨by first | rfl | (simp [errW_none, errW_some] <;> rfl) | (simp [*, errW_none, errW_some] <;> rfl), bB⟩
  ·rw [if_neg c4] at H
   have c4b0 : (t104 == 3) = false := beq_eq_false_iff_ne.mpr c4
   have c4b1 : (t104 != 3) = true := bne_iff_ne.mpr c4
   obtain rfl := Option.some.inj H
   go_enter Tryd.func7, Tryd.ntmps7
   go_wp2_with (first | ((with_reducible refine gate_dst (N := 9) rfl ?_); refine Lab.lit_event (N := 9) (x := .tmp 8) (xs := ([49, 50, 48, 46, 51] : List Int)) (cs := #[.int .u8 49, .int .u8 50, .int .u8 48, .int .u8 46, .int .u8 51]) ?hg ?hd ?ho ?hx Tryd.underlying29 Tryd.underlying5 ?hcs ?hz ?_; (case hd => rfl); (case hg => rfl); (case ho => rfl); (case hx => first | rfl | (simp; done)); (case hcs => rfl); (case hz => simp); intro Az102 cz102 w10 hC_ hR_ hb; rw [← Ny101.out] at hC_ hR_; (try rw [← Ny101.out]); replace HB := aB HB hb; have HR102 := Aside0.mk hC_; have HC102 := Aside0.mk hR_; (try clear hb); (try clear hC_); (try clear hR_)) | ((with_reducible refine gate_callee (f := 11) rfl ?_); refine goesL_ (some 10) rfl rfl Tryd.func11 (by kernel_rfl) rfl #[.slice Az102 y101.length cz102, .int .i64 0] rfl bM ?_; (with_reducible refine (num_Parse.calls k _ _ y101 0 t103 t104 t105 _ ?side1 ?side2 A1.out).mono ?_); (case side1 => exact aCw HR102); (case side2 => exact HC102.out); rintro e w' ⟨rfl, ⟨nd, rfl⟩⟩; refine ⟨_, rfl, ?_⟩) | ((with_reducible refine gate_dst (N := 16) rfl ?_); refine Lab.lit_event (N := 16) (x := .tmp 15) (xs := ([48, 48, 55] : List Int)) (cs := #[.int .u8 48, .int .u8 48, .int .u8 55]) ?hg ?hd ?ho ?hx Tryd.underlying29 Tryd.underlying5 ?hcs ?hz ?_; (case hd => rfl); (case hg => rfl); (case ho => rfl); (case hx => first | rfl | (simp; done)); (case hcs => rfl); (case hz => simp); intro Az107 cz107 w11 hC_ hR_ hb; rw [← Ny106.out] at hC_ hR_; (try rw [← Ny106.out]); replace HR102 := aC HR102 hb; replace HB := aB HB hb; have HR107 := Aside0.mk hC_; have HC107 := Aside0.mk hR_; (try clear hb); (try clear hC_); (try clear hR_)) | ((with_reducible refine gate_callee (f := 11) rfl ?_); refine goesL_ (some 17) rfl rfl Tryd.func11 (by kernel_rfl) rfl #[.slice Az107 y106.length cz107, .int .i64 0] rfl bM ?_; (with_reducible refine (num_Parse.calls k _ _ y106 0 t108 t109 t110 _ ?side1 ?side2 A2.out).mono ?_); (case side1 => exact aCw HR107); (case side2 => exact HC107.out); rintro e w' ⟨rfl, ⟨nd, rfl⟩⟩; refine ⟨_, rfl, ?_⟩))
   go_ret
   exact ⟨by first | rfl | (simp [errW_none, errW_some] <;> rfl) | (simp [*, errW_none, errW_some] <;> rfl), bB⟩
 ·rw [if_neg c3] at H
  have c3b0 : (t103 == 120) = false := beq_eq_false_iff_ne.mpr c3
  have c3b1 : (t103 != 120) = true := bne_iff_ne.mpr c3
  obtain rfl := Option.some.inj H
  go_enter Tryd.func7, Tryd.ntmps7
  go_wp2_with (first | ((with_reducible refine gate_dst (N := 9) rfl ?_); refine Lab.lit_event (N := 9) (x := .tmp 8) (xs := ([49, 50, 48, 46, 51] : List Int)) (cs := #[.int .u8 49, .int .u8 50, .int .u8 48, .int .u8 46, .int .u8 51]) ?hg ?hd ?ho ?hx Tryd.underlying29 Tryd.underlying5 ?hcs ?hz ?_; (case hd => rfl); (case hg => rfl); (case ho => rfl); (case hx => first | rfl | (simp; done)); (case hcs => rfl); (case hz => simp); intro Az102 cz102 w12 hC_ hR_ hb; rw [← Ny101.out] at hC_ hR_; (try rw [← Ny101.out]); replace HB := aB HB hb; have HR102 := Aside0.mk hC_; have HC102 := Aside0.mk hR_; (try clear hb); (try clear hC_); (try clear hR_)) | ((with_reducible refine gate_callee (f := 11) rfl ?_); refine goesL_ (some 10) rfl rfl Tryd.func11 (by kernel_rfl) rfl #[.slice Az102 y101.length cz102, .int .i64 0] rfl bM ?_; (with_reducible refine (num_Parse.calls k _ _ y101 0 t103 t104 t105 _ ?side1 ?side2 A1.out).mono ?_); (case side1 => exact aCw HR102); (case side2 => exact HC102.out); rintro e w' ⟨rfl, ⟨nd, rfl⟩⟩; refine ⟨_, rfl, ?_⟩) | ((with_reducible refine gate_dst (N := 16) rfl ?_); refine Lab.lit_event (N := 16) (x := .tmp 15) (xs := ([48, 48, 55] : List Int)) (cs := #[.int .u8 48, .int .u8 48, .int .u8 55]) ?hg ?hd ?ho ?hx Tryd.underlying29 Tryd.underlying5 ?hcs ?hz ?_; (case hd => rfl); (case hg => rfl); (case ho => rfl); (case hx => first | rfl | (simp; done)); (case hcs => rfl); (case hz => simp); intro Az107 cz107 w13 hC_ hR_ hb; rw [← Ny106.out] at hC_ hR_; (try rw [← Ny106.out]); replace HR102 := aC HR102 hb; replace HB := aB HB hb; have HR107 := Aside0.mk hC_; have HC107 := Aside0.mk hR_; (try clear hb); (try clear hC_); (try clear hR_)) | ((with_reducible refine gate_callee (f := 11) rfl ?_); refine goesL_ (some 17) rfl rfl Tryd.func11 (by kernel_rfl) rfl #[.slice Az107 y106.length cz107, .int .i64 0] rfl bM ?_; (with_reducible refine (num_Parse.calls k _ _ y106 0 t108 t109 t110 _ ?side1 ?side2 A2.out).mono ?_); (case side1 => exact aCw HR107); (case side2 => exact HC107.out); rintro e w' ⟨rfl, ⟨nd, rfl⟩⟩; refine ⟨_, rfl, ?_⟩))
  go_ret
  exact ⟨by first | rfl | (simp [errW_none, errW_some] <;> rfl) | (simp [*, errW_none, errW_some] <;> rfl), bB⟩

end Go.Proofs.YtaocceijkiiciaaDoor.X
