-- Written by a program of this session (wip/xp), out of the translation. Not trusted: Lean checks it.
import Derived.Test.YtildmfegfkiknaaDoorX0
import Derived.Test.YtildmfegfkiknaaDoorXn15
import Derived.Test.YtildmfegfkiknaaDoorXn18
-- shrunk
namespace Go.Proofs.YtildmfegfkiknaaDoor.X
open Go.RowKit Go.Proofs.YtildmfegfkiknaaDoorW.PrintWords Go.Proofs.YtildmfegfkiknaaDoorW.PrintLast Go.Proofs.YtildmfegfkiknaaDoorW.PrintMore
attribute [local go_sem] Lab.str_gtr Lab.str_leq Lab.str_geq max2_int min2_int max_two min_two max_three min_three max_four min_four   -- for this text's walks alone
set_option linter.unusedVariables false
set_option linter.unusedSimpArgs false

/-! ### ferrulelaw02_awake: function 14 -/
def ferrulelaw02_awake.f (k : Nat)  : Option (Bool) := (ident_Row.f k (([97, 108, 112, 104, 97, 46, 49, 43, 120] : List Int)) 0 true).bind fun bt103 => ((ident_Row.f k (([49, 46, 48, 49] : List Int)) 0 true).bind fun bt110 => (if (bt103.1.length : Int) = 2 then (if bt103.2.1 = 7 then (if bt103.2.2 = 0 then (if bt110.2.2 = 3 then ((ident_Compare.f k (⟨#[57]⟩ : ByteArray) (⟨#[49, 48]⟩ : ByteArray)).bind fun t115 => (if t115 = (-1) then ((ident_Compare.f k (⟨#[49, 48]⟩ : ByteArray) (⟨#[97]⟩ : ByteArray)).bind fun t116 => (some (t116 == (-1)))) else (some false))) else (some false)) else (some false)) else (some false)) else (some false)))
theorem ferrulelaw02_awake.mono : ∀ k, LeO (ferrulelaw02_awake.f k ) (ferrulelaw02_awake.f (k + 1) ) := by
 intro  k
 unfold ferrulelaw02_awake.f
 repeat' first
   | (with_reducible exact ident_Compare.mono _ _ _)
   | (with_reducible exact ident_Row.mono _ _ _ _)
   | (with_reducible exact LeO.refl _)
   | (with_reducible exact LeO.none _)
   | (with_reducible refine LeO.ite ?_ ?_)
   | (with_reducible refine LeO.bind ?_ (fun _ => ?_))
   | exact ident_Compare.mono _ _ _
   | exact ident_Row.mono _ _ _ _
   | exact LeO.none _
   | refine LeO.ite ?_ ?_
   | refine LeO.bind ?_ (fun _ => ?_)
set_option maxHeartbeats 8000000 in
set_option maxRecDepth 100000 in
theorem ferrulelaw02_awake.calls (k : Nat)  (r : Bool) (w : World) (h : ferrulelaw02_awake.f k  = some r) :
  Calls Tryd.prog 14 #[] w fun e w' => e = .returned (.bool r) ∧ Below w.heap.size w w' := by
 have HB := Aside0.mk (Below.refl w.heap.size w)
 have H : ((ident_Row.f k (([97, 108, 112, 104, 97, 46, 49, 43, 120] : List Int)) 0 true).bind fun bt103 => ((ident_Row.f k (([49, 46, 48, 49] : List Int)) 0 true).bind fun bt110 => (if (bt103.1.length : Int) = 2 then (if bt103.2.1 = 7 then (if bt103.2.2 = 0 then (if bt110.2.2 = 3 then ((ident_Compare.f k (⟨#[57]⟩ : ByteArray) (⟨#[49, 48]⟩ : ByteArray)).bind fun t115 => (if t115 = (-1) then ((ident_Compare.f k (⟨#[49, 48]⟩ : ByteArray) (⟨#[97]⟩ : ByteArray)).bind fun t116 => (some (t116 == (-1)))) else (some false))) else (some false)) else (some false)) else (some false)) else (some false)))) = some r := h
 clear h
 obtain ⟨y101, hy101⟩ : ∃ y_ : List Int, y_ = (([97, 108, 112, 104, 97, 46, 49, 43, 120] : List Int)) := ⟨_, rfl⟩
 replace H : ((ident_Row.f k y101 0 true).bind fun bt103 => ((ident_Row.f k (([49, 46, 48, 49] : List Int)) 0 true).bind fun bt110 => (if (bt103.1.length : Int) = 2 then (if bt103.2.1 = 7 then (if bt103.2.2 = 0 then (if bt110.2.2 = 3 then ((ident_Compare.f k (⟨#[57]⟩ : ByteArray) (⟨#[49, 48]⟩ : ByteArray)).bind fun t115 => (if t115 = (-1) then ((ident_Compare.f k (⟨#[49, 48]⟩ : ByteArray) (⟨#[97]⟩ : ByteArray)).bind fun t116 => (some (t116 == (-1)))) else (some false))) else (some false)) else (some false)) else (some false)) else (some false)))) = some r := by first | (rw [hy101]; with_reducible exact H) | (have H2_ := (Option.bind_some _ _).symm.trans H; rw [hy101]; with_reducible exact H2_) | (have H2_ := (Option.bind_some _ _).symm.trans H; with_reducible exact H2_) | with_reducible exact H | (rw [hy101]; exact H) | exact H
 have Ny101 := Aside0.mk hy101
 clear hy101
 replace H := Option.bind_eq_some_iff.mp H
 obtain ⟨⟨t103, t104, t105⟩, A10, H⟩ := H
 replace H : ((ident_Row.f k (([49, 46, 48, 49] : List Int)) 0 true).bind fun bt110 => (if (t103.length : Int) = 2 then (if t104 = 7 then (if t105 = 0 then (if bt110.2.2 = 3 then ((ident_Compare.f k (⟨#[57]⟩ : ByteArray) (⟨#[49, 48]⟩ : ByteArray)).bind fun t115 => (if t115 = (-1) then ((ident_Compare.f k (⟨#[49, 48]⟩ : ByteArray) (⟨#[97]⟩ : ByteArray)).bind fun t116 => (some (t116 == (-1)))) else (some false))) else (some false)) else (some false)) else (some false)) else (some false))) = some r := H
 have A1 := Aside0.mk A10
 clear A10
 obtain ⟨y108, hy108⟩ : ∃ y_ : List Int, y_ = (([49, 46, 48, 49] : List Int)) := ⟨_, rfl⟩
 replace H : ((ident_Row.f k y108 0 true).bind fun bt110 => (if (t103.length : Int) = 2 then (if t104 = 7 then (if t105 = 0 then (if bt110.2.2 = 3 then ((ident_Compare.f k (⟨#[57]⟩ : ByteArray) (⟨#[49, 48]⟩ : ByteArray)).bind fun t115 => (if t115 = (-1) then ((ident_Compare.f k (⟨#[49, 48]⟩ : ByteArray) (⟨#[97]⟩ : ByteArray)).bind fun t116 => (some (t116 == (-1)))) else (some false))) else (some false)) else (some false)) else (some false)) else (some false))) = some r := by first | (rw [hy108]; with_reducible exact H) | (have H2_ := (Option.bind_some _ _).symm.trans H; rw [hy108]; with_reducible exact H2_) | (have H2_ := (Option.bind_some _ _).symm.trans H; with_reducible exact H2_) | with_reducible exact H | (rw [hy108]; exact H) | exact H
 have Ny108 := Aside0.mk hy108
 clear hy108
 replace H := Option.bind_eq_some_iff.mp H
 obtain ⟨⟨t110, t111, t112⟩, A20, H⟩ := H
 replace H : (if (t103.length : Int) = 2 then (if t104 = 7 then (if t105 = 0 then (if t112 = 3 then ((ident_Compare.f k (⟨#[57]⟩ : ByteArray) (⟨#[49, 48]⟩ : ByteArray)).bind fun t115 => (if t115 = (-1) then ((ident_Compare.f k (⟨#[49, 48]⟩ : ByteArray) (⟨#[97]⟩ : ByteArray)).bind fun t116 => (some (t116 == (-1)))) else (some false))) else (some false)) else (some false)) else (some false)) else (some false)) = some r := H
 have A2 := Aside0.mk A20
 clear A20
 by_cases c3 : (t103.length : Int) = 2
 ·rw [if_pos c3] at H
  have c3b0 : ((t103.length : Int) == 2) = true := beq_iff_eq.mpr c3
  have c3b1 : ((t103.length : Int) != 2) = false := bne_eq_false_iff_eq.mpr c3
  clear c3
  by_cases c4 : t104 = 7
  ·rw [if_pos c4] at H
   have c4b0 : (t104 == 7) = true := beq_iff_eq.mpr c4
   have c4b1 : (t104 != 7) = false := bne_eq_false_iff_eq.mpr c4
   clear c4
   by_cases c5 : t105 = 0
   ·rw [if_pos c5] at H
    have c5b0 : (t105 == 0) = true := beq_iff_eq.mpr c5
    have c5b1 : (t105 != 0) = false := bne_eq_false_iff_eq.mpr c5
    clear c5
    by_cases c6 : t112 = 3
    ·rw [if_pos c6] at H
     have c6b0 : (t112 == 3) = true := beq_iff_eq.mpr c6
     have c6b1 : (t112 != 3) = false := bne_eq_false_iff_eq.mpr c6
     clear c6
     replace H := Option.bind_eq_some_iff.mp H
     obtain ⟨t115, A70, H⟩ := H
     replace H : (if t115 = (-1) then ((ident_Compare.f k (⟨#[49, 48]⟩ : ByteArray) (⟨#[97]⟩ : ByteArray)).bind fun t116 => (some (t116 == (-1)))) else (some false)) = some r := H
     have A7 := Aside0.mk A70
     clear A70
     by_cases c8 : t115 = (-1)
     ·rw [if_pos c8] at H
      have c8b0 : (t115 == (-1)) = true := beq_iff_eq.mpr c8
      have c8b1 : (t115 != (-1)) = false := bne_eq_false_iff_eq.mpr c8
      clear c8
      replace H := Option.bind_eq_some_iff.mp H
      obtain ⟨t116, A90, H⟩ := H
      replace H : (some (t116 == (-1))) = some r := H
      have A9 := Aside0.mk A90
      clear A90
      obtain rfl := Option.some.inj H
      go_enter Tryd.func14, Tryd.ntmps14
      go_wp2_with (first | ((with_reducible refine gate_dst (N := 9) rfl ?_); refine Lab.lit_event (N := 9) (x := .tmp 8) (xs := ([97, 108, 112, 104, 97, 46, 49, 43, 120] : List Int)) (cs := #[.int .u8 97, .int .u8 108, .int .u8 112, .int .u8 104, .int .u8 97, .int .u8 46, .int .u8 49, .int .u8 43, .int .u8 120]) ?hg ?hd ?ho ?hx Tryd.underlying22 Tryd.underlying5 ?hcs ?hz ?_; (case hd => rfl); (case hg => rfl); (case ho => rfl); (case hx => first | rfl | (simp; done)); (case hcs => rfl); (case hz => simp); intro Az102 cz102 w10 hC_ hR_ hb; rw [← Ny101.out] at hC_ hR_; (try rw [← Ny101.out]); replace HB := aB HB hb; have HR102 := Aside0.mk hC_; have HC102 := Aside0.mk hR_; (try clear hb); (try clear hC_); (try clear hR_)) | ((with_reducible refine gate_callee (f := 15) rfl ?_); refine goesL_ (some 10) rfl rfl Tryd.func15 (by kernel_rfl) rfl #[.slice Az102 y101.length cz102, .int .i64 0, .bool true] rfl bM ?_; (with_reducible refine (ident_Row.calls k _ _ y101 0 true t103 t104 t105 _ ?side1 ?side2 A1.out).mono ?_); (case side1 => exact aCw HR102); (case side2 => exact HC102.out); rintro e w11 ⟨v106, rfl, ho0, hb⟩; refine ⟨_, rfl, ?_⟩; have HO107 := aL ho0 HB; replace HR102 := aC HR102 hb; replace HB := aB HB hb; (try clear hb); (try clear hb2); (try clear hk); (try clear hi); (try clear ho0)) | ((with_reducible refine gate_dst (N := 16) rfl ?_); refine Lab.lit_event (N := 16) (x := .tmp 15) (xs := ([49, 46, 48, 49] : List Int)) (cs := #[.int .u8 49, .int .u8 46, .int .u8 48, .int .u8 49]) ?hg ?hd ?ho ?hx Tryd.underlying22 Tryd.underlying5 ?hcs ?hz ?_; (case hd => rfl); (case hg => rfl); (case ho => rfl); (case hx => first | rfl | (simp; done)); (case hcs => rfl); (case hz => simp); intro Az109 cz109 w12 hC_ hR_ hb; rw [← Ny108.out] at hC_ hR_; (try rw [← Ny108.out]); replace HO107 := aR HO107 hb; replace HR102 := aC HR102 hb; replace HB := aB HB hb; have HR109 := Aside0.mk hC_; have HC109 := Aside0.mk hR_; (try clear hb); (try clear hC_); (try clear hR_)) | ((with_reducible refine gate_callee (f := 15) rfl ?_); refine goesL_ (some 17) rfl rfl Tryd.func15 (by kernel_rfl) rfl #[.slice Az109 y108.length cz109, .int .i64 0, .bool true] rfl bM ?_; (with_reducible refine (ident_Row.calls k _ _ y108 0 true t110 t111 t112 _ ?side1 ?side2 A2.out).mono ?_); (case side1 => exact aCw HR109); (case side2 => exact HC109.out); rintro e w13 ⟨v113, rfl, ho0, hb⟩; refine ⟨_, rfl, ?_⟩; have HO114 := aN ho0 HO107 HB; replace HO107 := aE HO107 ho0 hb; replace HR102 := aC HR102 hb; replace HR109 := aC HR109 hb; replace HB := aB HB hb; (try clear hb); (try clear hb2); (try clear hk); (try clear hi); (try clear ho0); obtain ⟨Ao14, co14, eo14⟩ := Kd.R_slice HO107.out; subst eo14) | (go_at_call 18; (with_reducible refine (ident_Compare.calls k (⟨#[57]⟩ : ByteArray) (⟨#[49, 48]⟩ : ByteArray) t115 _ A7.out).mono ?_); rintro e w15 ⟨rfl, hb⟩; replace HO107 := aR HO107 hb; replace HO114 := aR HO114 hb; replace HR102 := aC HR102 hb; replace HR109 := aC HR109 hb; replace HB := aB HB hb; (try clear hb); (try clear hb2); (try clear hk); (try clear hi)) | (go_at_call 18; (with_reducible refine (ident_Compare.calls k (⟨#[49, 48]⟩ : ByteArray) (⟨#[97]⟩ : ByteArray) t116 _ A9.out).mono ?_); rintro e w16 ⟨rfl, hb⟩; replace HO107 := aR HO107 hb; replace HO114 := aR HO114 hb; replace HR102 := aC HR102 hb; replace HR109 := aC HR109 hb; replace HB := aB HB hb; (try clear hb); (try clear hb2); (try clear hk); (try clear hi)))
      go_ret
      exact ⟨by first | rfl | (simp [errW_none, errW_some] <;> rfl) | (simp [*, errW_none, errW_some] <;> rfl), bB⟩
     ·rw [if_neg c8] at H
      have c8b0 : (t115 == (-1)) = false := beq_eq_false_iff_ne.mpr c8
      have c8b1 : (t115 != (-1)) = true := bne_iff_ne.mpr c8
      obtain rfl := Option.some.inj H
      go_enter Tryd.func14, Tryd.ntmps14
      go_wp2_with (first | ((with_reducible refine gate_dst (N := 9) rfl ?_); refine Lab.lit_event (N := 9) (x := .tmp 8) (xs := ([97, 108, 112, 104, 97, 46, 49, 43, 120] : List Int)) (cs := #[.int .u8 97, .int .u8 108, .int .u8 112, .int .u8 104, .int .u8 97, .int .u8 46, .int .u8 49, .int .u8 43, .int .u8 120]) ?hg ?hd ?ho ?hx Tryd.underlying22 Tryd.underlying5 ?hcs ?hz ?_; (case hd => rfl); (case hg => rfl); (case ho => rfl); (case hx => first | rfl | (simp; done)); (case hcs => rfl); (case hz => simp); intro Az102 cz102 w17 hC_ hR_ hb; rw [← Ny101.out] at hC_ hR_; (try rw [← Ny101.out]); replace HB := aB HB hb; have HR102 := Aside0.mk hC_; have HC102 := Aside0.mk hR_; (try clear hb); (try clear hC_); (try clear hR_)) | ((with_reducible refine gate_callee (f := 15) rfl ?_); refine goesL_ (some 10) rfl rfl Tryd.func15 (by kernel_rfl) rfl #[.slice Az102 y101.length cz102, .int .i64 0, .bool true] rfl bM ?_; (with_reducible refine (ident_Row.calls k _ _ y101 0 true t103 t104 t105 _ ?side1 ?side2 A1.out).mono ?_); (case side1 => exact aCw HR102); (case side2 => exact HC102.out); rintro e w18 ⟨v106, rfl, ho0, hb⟩; refine ⟨_, rfl, ?_⟩; have HO107 := aL ho0 HB; replace HR102 := aC HR102 hb; replace HB := aB HB hb; (try clear hb); (try clear hb2); (try clear hk); (try clear hi); (try clear ho0)) | ((with_reducible refine gate_dst (N := 16) rfl ?_); refine Lab.lit_event (N := 16) (x := .tmp 15) (xs := ([49, 46, 48, 49] : List Int)) (cs := #[.int .u8 49, .int .u8 46, .int .u8 48, .int .u8 49]) ?hg ?hd ?ho ?hx Tryd.underlying22 Tryd.underlying5 ?hcs ?hz ?_; (case hd => rfl); (case hg => rfl); (case ho => rfl); (case hx => first | rfl | (simp; done)); (case hcs => rfl); (case hz => simp); intro Az109 cz109 w19 hC_ hR_ hb; rw [← Ny108.out] at hC_ hR_; (try rw [← Ny108.out]); replace HO107 := aR HO107 hb; replace HR102 := aC HR102 hb; replace HB := aB HB hb; have HR109 := Aside0.mk hC_; have HC109 := Aside0.mk hR_; (try clear hb); (try clear hC_); (try clear hR_)) | ((with_reducible refine gate_callee (f := 15) rfl ?_); refine goesL_ (some 17) rfl rfl Tryd.func15 (by kernel_rfl) rfl #[.slice Az109 y108.length cz109, .int .i64 0, .bool true] rfl bM ?_; (with_reducible refine (ident_Row.calls k _ _ y108 0 true t110 t111 t112 _ ?side1 ?side2 A2.out).mono ?_); (case side1 => exact aCw HR109); (case side2 => exact HC109.out); rintro e w20 ⟨v113, rfl, ho0, hb⟩; refine ⟨_, rfl, ?_⟩; have HO114 := aN ho0 HO107 HB; replace HO107 := aE HO107 ho0 hb; replace HR102 := aC HR102 hb; replace HR109 := aC HR109 hb; replace HB := aB HB hb; (try clear hb); (try clear hb2); (try clear hk); (try clear hi); (try clear ho0); obtain ⟨Ao21, co21, eo21⟩ := Kd.R_slice HO107.out; subst eo21) | (go_at_call 18; (with_reducible refine (ident_Compare.calls k (⟨#[57]⟩ : ByteArray) (⟨#[49, 48]⟩ : ByteArray) t115 _ A7.out).mono ?_); rintro e w22 ⟨rfl, hb⟩; replace HO107 := aR HO107 hb; replace HO114 := aR HO114 hb; replace HR102 := aC HR102 hb; replace HR109 := aC HR109 hb; replace HB := aB HB hb; (try clear hb); (try clear hb2); (try clear hk); (try clear hi)))
      go_ret
      exact ⟨by first | rfl | (simp [errW_none, errW_some] <;> rfl) | (simp [*, errW_none, errW_some] <;> rfl), bB⟩
    ·rw [if_neg c6] at H
     have c6b0 : (t112 == 3) = false := beq_eq_false_iff_ne.mpr c6
     have c6b1 : (t112 != 3) = true := bne_iff_ne.mpr c6
     obtain rfl := Option.some.inj H
     go_enter Tryd.func14, Tryd.ntmps14
     go_wp2_with (first | ((with_reducible refine gate_dst (N := 9) rfl ?_); refine Lab.lit_event (N := 9) (x := .tmp 8) (xs := ([97, 108, 112, 104, 97, 46, 49, 43, 120] : List Int)) (cs := #[.int .u8 97, .int .u8 108, .int .u8 112, .int .u8 104, .int .u8 97, .int .u8 46, .int .u8 49, .int .u8 43, .int .u8 120]) ?hg ?hd ?ho ?hx Tryd.underlying22 Tryd.underlying5 ?hcs ?hz ?_; (case hd => rfl); (case hg => rfl); (case ho => rfl); (case hx => first | rfl | (simp; done)); (case hcs => rfl); (case hz => simp); intro Az102 cz102 w23 hC_ hR_ hb; rw [← Ny101.out] at hC_ hR_; (try rw [← Ny101.out]); replace HB := aB HB hb; have HR102 := Aside0.mk hC_; have HC102 := Aside0.mk hR_; (try clear hb); (try clear hC_); (try clear hR_)) | ((with_reducible refine gate_callee (f := 15) rfl ?_); refine goesL_ (some 10) rfl rfl Tryd.func15 (by kernel_rfl) rfl #[.slice Az102 y101.length cz102, .int .i64 0, .bool true] rfl bM ?_; (with_reducible refine (ident_Row.calls k _ _ y101 0 true t103 t104 t105 _ ?side1 ?side2 A1.out).mono ?_); (case side1 => exact aCw HR102); (case side2 => exact HC102.out); rintro e w24 ⟨v106, rfl, ho0, hb⟩; refine ⟨_, rfl, ?_⟩; have HO107 := aL ho0 HB; replace HR102 := aC HR102 hb; replace HB := aB HB hb; (try clear hb); (try clear hb2); (try clear hk); (try clear hi); (try clear ho0)) | ((with_reducible refine gate_dst (N := 16) rfl ?_); refine Lab.lit_event (N := 16) (x := .tmp 15) (xs := ([49, 46, 48, 49] : List Int)) (cs := #[.int .u8 49, .int .u8 46, .int .u8 48, .int .u8 49]) ?hg ?hd ?ho ?hx Tryd.underlying22 Tryd.underlying5 ?hcs ?hz ?_; (case hd => rfl); (case hg => rfl); (case ho => rfl); (case hx => first | rfl | (simp; done)); (case hcs => rfl); (case hz => simp); intro Az109 cz109 w25 hC_ hR_ hb; rw [← Ny108.out] at hC_ hR_; (try rw [← Ny108.out]); replace HO107 := aR HO107 hb; replace HR102 := aC HR102 hb; replace HB := aB HB hb; have HR109 := Aside0.mk hC_; have HC109 := Aside0.mk hR_; (try clear hb); (try clear hC_); (try clear hR_)) | ((with_reducible refine gate_callee (f := 15) rfl ?_); refine goesL_ (some 17) rfl rfl Tryd.func15 (by kernel_rfl) rfl #[.slice Az109 y108.length cz109, .int .i64 0, .bool true] rfl bM ?_; (with_reducible refine (ident_Row.calls k _ _ y108 0 true t110 t111 t112 _ ?side1 ?side2 A2.out).mono ?_); (case side1 => exact aCw HR109); (case side2 => exact HC109.out); rintro e w26 ⟨v113, rfl, ho0, hb⟩; refine ⟨_, rfl, ?_⟩; have HO114 := aN ho0 HO107 HB; replace HO107 := aE HO107 ho0 hb; replace HR102 := aC HR102 hb; replace HR109 := aC HR109 hb; replace HB := aB HB hb; (try clear hb); (try clear hb2); (try clear hk); (try clear hi); (try clear ho0); obtain ⟨Ao27, co27, eo27⟩ := Kd.R_slice HO107.out; subst eo27))
     go_ret
     exact ⟨by first | rfl | (simp [errW_none, errW_some] <;> rfl) | (simp [*, errW_none, errW_some] <;> rfl), bB⟩
   ·rw [if_neg c5] at H
    have c5b0 : (t105 == 0) = false := beq_eq_false_iff_ne.mpr c5
    have c5b1 : (t105 != 0) = true := bne_iff_ne.mpr c5
    obtain rfl := Option.some.inj H
    go_enter Tryd.func14, Tryd.ntmps14
    go_wp2_with (first | ((with_reducible refine gate_dst (N := 9) rfl ?_); refine Lab.lit_event (N := 9) (x := .tmp 8) (xs := ([97, 108, 112, 104, 97, 46, 49, 43, 120] : List Int)) (cs := #[.int .u8 97, .int .u8 108, .int .u8 112, .int .u8 104, .int .u8 97, .int .u8 46, .int .u8 49, .int .u8 43, .int .u8 120]) ?hg ?hd ?ho ?hx Tryd.underlying22 Tryd.underlying5 ?hcs ?hz ?_; (case hd => rfl); (case hg => rfl); (case ho => rfl); (case hx => first | rfl | (simp; done)); (case hcs => rfl); (case hz => simp); intro Az102 cz102 w28 hC_ hR_ hb; rw [← Ny101.out] at hC_ hR_; (try rw [← Ny101.out]); replace HB := aB HB hb; have HR102 := Aside0.mk hC_; have HC102 := Aside0.mk hR_; (try clear hb); (try clear hC_); (try clear hR_)) | ((with_reducible refine gate_callee (f := 15) rfl ?_); refine goesL_ (some 10) rfl rfl Tryd.func15 (by kernel_rfl) rfl #[.slice Az102 y101.length cz102, .int .i64 0, .bool true] rfl bM ?_; (with_reducible refine (ident_Row.calls k _ _ y101 0 true t103 t104 t105 _ ?side1 ?side2 A1.out).mono ?_); (case side1 => exact aCw HR102); (case side2 => exact HC102.out); rintro e w29 ⟨v106, rfl, ho0, hb⟩; refine ⟨_, rfl, ?_⟩; have HO107 := aL ho0 HB; replace HR102 := aC HR102 hb; replace HB := aB HB hb; (try clear hb); (try clear hb2); (try clear hk); (try clear hi); (try clear ho0)) | ((with_reducible refine gate_dst (N := 16) rfl ?_); refine Lab.lit_event (N := 16) (x := .tmp 15) (xs := ([49, 46, 48, 49] : List Int)) (cs := #[.int .u8 49, .int .u8 46, .int .u8 48, .int .u8 49]) ?hg ?hd ?ho ?hx Tryd.underlying22 Tryd.underlying5 ?hcs ?hz ?_; (case hd => rfl); (case hg => rfl); (case ho => rfl); (case hx => first | rfl | (simp; done)); (case hcs => rfl); (case hz => simp); intro Az109 cz109 w30 hC_ hR_ hb; rw [← Ny108.out] at hC_ hR_; (try rw [← Ny108.out]); replace HO107 := aR HO107 hb; replace HR102 := aC HR102 hb; replace HB := aB HB hb; have HR109 := Aside0.mk hC_; have HC109 := Aside0.mk hR_; (try clear hb); (try clear hC_); (try clear hR_)) | ((with_reducible refine gate_callee (f := 15) rfl ?_); refine goesL_ (some 17) rfl rfl Tryd.func15 (by kernel_rfl) rfl #[.slice Az109 y108.length cz109, .int .i64 0, .bool true] rfl bM ?_; (with_reducible refine (ident_Row.calls k _ _ y108 0 true t110 t111 t112 _ ?side1 ?side2 A2.out).mono ?_); (case side1 => exact aCw HR109); (case side2 => exact HC109.out); rintro e w31 ⟨v113, rfl, ho0, hb⟩; refine ⟨_, rfl, ?_⟩; have HO114 := aN ho0 HO107 HB; replace HO107 := aE HO107 ho0 hb; replace HR102 := aC HR102 hb; replace HR109 := aC HR109 hb; replace HB := aB HB hb; (try clear hb); (try clear hb2); (try clear hk); (try clear hi); (try clear ho0); obtain ⟨Ao32, co32, eo32⟩ := Kd.R_slice HO107.out; subst eo32))
    go_ret
    exact ⟨by first | rfl | (simp [errW_none, errW_some] <;> rfl) | (simp [*, errW_none, errW_some] <;> rfl), bB⟩
  ·rw [if_neg c4] at H
   have c4b0 : (t104 == 7) = false := beq_eq_false_iff_ne.mpr c4
   have c4b1 : (t104 != 7) = true := bne_iff_ne.mpr c4
   obtain rfl := Option.some.inj H
   go_enter Tryd.func14, Tryd.ntmps14
   go_wp2_with (first | ((with_reducible refine gate_dst (N := 9) rfl ?_); refine Lab.lit_event (N := 9) (x := .tmp 8) (xs := ([97, 108, 112, 104, 97, 46, 49, 43, 120] : List Int)) (cs := #[.int .u8 97, .int .u8 108, .int .u8 112, .int .u8 104, .int .u8 97, .int .u8 46, .int .u8 49, .int .u8 43, .int .u8 120]) ?hg ?hd ?ho ?hx Tryd.underlying22 Tryd.underlying5 ?hcs ?hz ?_; (case hd => rfl); (case hg => rfl); (case ho => rfl); (case hx => first | rfl | (simp; done)); (case hcs => rfl); (case hz => simp); intro Az102 cz102 w33 hC_ hR_ hb; rw [← Ny101.out] at hC_ hR_; (try rw [← Ny101.out]); replace HB := aB HB hb; have HR102 := Aside0.mk hC_; have HC102 := Aside0.mk hR_; (try clear hb); (try clear hC_); (try clear hR_)) | ((with_reducible refine gate_callee (f := 15) rfl ?_); refine goesL_ (some 10) rfl rfl Tryd.func15 (by kernel_rfl) rfl #[.slice Az102 y101.length cz102, .int .i64 0, .bool true] rfl bM ?_; (with_reducible refine (ident_Row.calls k _ _ y101 0 true t103 t104 t105 _ ?side1 ?side2 A1.out).mono ?_); (case side1 => exact aCw HR102); (case side2 => exact HC102.out); rintro e w34 ⟨v106, rfl, ho0, hb⟩; refine ⟨_, rfl, ?_⟩; have HO107 := aL ho0 HB; replace HR102 := aC HR102 hb; replace HB := aB HB hb; (try clear hb); (try clear hb2); (try clear hk); (try clear hi); (try clear ho0)) | ((with_reducible refine gate_dst (N := 16) rfl ?_); refine Lab.lit_event (N := 16) (x := .tmp 15) (xs := ([49, 46, 48, 49] : List Int)) (cs := #[.int .u8 49, .int .u8 46, .int .u8 48, .int .u8 49]) ?hg ?hd ?ho ?hx Tryd.underlying22 Tryd.underlying5 ?hcs ?hz ?_; (case hd => rfl); (case hg => rfl); (case ho => rfl); (case hx => first | rfl | (simp; done)); (case hcs => rfl); (case hz => simp); intro Az109 cz109 w35 hC_ hR_ hb; rw [← Ny108.out] at hC_ hR_; (try rw [← Ny108.out]); replace HO107 := aR HO107 hb; replace HR102 := aC HR102 hb; replace HB := aB HB hb; have HR109 := Aside0.mk hC_; have HC109 := Aside0.mk hR_; (try clear hb); (try clear hC_); (try clear hR_)) | ((with_reducible refine gate_callee (f := 15) rfl ?_); refine goesL_ (some 17) rfl rfl Tryd.func15 (by kernel_rfl) rfl #[.slice Az109 y108.length cz109, .int .i64 0, .bool true] rfl bM ?_; (with_reducible refine (ident_Row.calls k _ _ y108 0 true t110 t111 t112 _ ?side1 ?side2 A2.out).mono ?_); (case side1 => exact aCw HR109); (case side2 => exact HC109.out); rintro e w36 ⟨v113, rfl, ho0, hb⟩; refine ⟨_, rfl, ?_⟩; have HO114 := aN ho0 HO107 HB; replace HO107 := aE HO107 ho0 hb; replace HR102 := aC HR102 hb; replace HR109 := aC HR109 hb; replace HB := aB HB hb; (try clear hb); (try clear hb2); (try clear hk); (try clear hi); (try clear ho0); obtain ⟨Ao37, co37, eo37⟩ := Kd.R_slice HO107.out; subst eo37))
   go_ret
   exact ⟨by first | rfl | (simp [errW_none, errW_some] <;> rfl) | (simp [*, errW_none, errW_some] <;> rfl), bB⟩
 ·rw [if_neg c3] at H
  have c3b0 : ((t103.length : Int) == 2) = false := beq_eq_false_iff_ne.mpr c3
  have c3b1 : ((t103.length : Int) != 2) = true := bne_iff_ne.mpr c3
  obtain rfl := Option.some.inj H
  go_enter Tryd.func14, Tryd.ntmps14
  go_wp2_with (first | ((with_reducible refine gate_dst (N := 9) rfl ?_); refine Lab.lit_event (N := 9) (x := .tmp 8) (xs := ([97, 108, 112, 104, 97, 46, 49, 43, 120] : List Int)) (cs := #[.int .u8 97, .int .u8 108, .int .u8 112, .int .u8 104, .int .u8 97, .int .u8 46, .int .u8 49, .int .u8 43, .int .u8 120]) ?hg ?hd ?ho ?hx Tryd.underlying22 Tryd.underlying5 ?hcs ?hz ?_; (case hd => rfl); (case hg => rfl); (case ho => rfl); (case hx => first | rfl | (simp; done)); (case hcs => rfl); (case hz => simp); intro Az102 cz102 w38 hC_ hR_ hb; rw [← Ny101.out] at hC_ hR_; (try rw [← Ny101.out]); replace HB := aB HB hb; have HR102 := Aside0.mk hC_; have HC102 := Aside0.mk hR_; (try clear hb); (try clear hC_); (try clear hR_)) | ((with_reducible refine gate_callee (f := 15) rfl ?_); refine goesL_ (some 10) rfl rfl Tryd.func15 (by kernel_rfl) rfl #[.slice Az102 y101.length cz102, .int .i64 0, .bool true] rfl bM ?_; (with_reducible refine (ident_Row.calls k _ _ y101 0 true t103 t104 t105 _ ?side1 ?side2 A1.out).mono ?_); (case side1 => exact aCw HR102); (case side2 => exact HC102.out); rintro e w39 ⟨v106, rfl, ho0, hb⟩; refine ⟨_, rfl, ?_⟩; have HO107 := aL ho0 HB; replace HR102 := aC HR102 hb; replace HB := aB HB hb; (try clear hb); (try clear hb2); (try clear hk); (try clear hi); (try clear ho0)) | ((with_reducible refine gate_dst (N := 16) rfl ?_); refine Lab.lit_event (N := 16) (x := .tmp 15) (xs := ([49, 46, 48, 49] : List Int)) (cs := #[.int .u8 49, .int .u8 46, .int .u8 48, .int .u8 49]) ?hg ?hd ?ho ?hx Tryd.underlying22 Tryd.underlying5 ?hcs ?hz ?_; (case hd => rfl); (case hg => rfl); (case ho => rfl); (case hx => first | rfl | (simp; done)); (case hcs => rfl); (case hz => simp); intro Az109 cz109 w40 hC_ hR_ hb; rw [← Ny108.out] at hC_ hR_; (try rw [← Ny108.out]); replace HO107 := aR HO107 hb; replace HR102 := aC HR102 hb; replace HB := aB HB hb; have HR109 := Aside0.mk hC_; have HC109 := Aside0.mk hR_; (try clear hb); (try clear hC_); (try clear hR_)) | ((with_reducible refine gate_callee (f := 15) rfl ?_); refine goesL_ (some 17) rfl rfl Tryd.func15 (by kernel_rfl) rfl #[.slice Az109 y108.length cz109, .int .i64 0, .bool true] rfl bM ?_; (with_reducible refine (ident_Row.calls k _ _ y108 0 true t110 t111 t112 _ ?side1 ?side2 A2.out).mono ?_); (case side1 => exact aCw HR109); (case side2 => exact HC109.out); rintro e w41 ⟨v113, rfl, ho0, hb⟩; refine ⟨_, rfl, ?_⟩; have HO114 := aN ho0 HO107 HB; replace HO107 := aE HO107 ho0 hb; replace HR102 := aC HR102 hb; replace HR109 := aC HR109 hb; replace HB := aB HB hb; (try clear hb); (try clear hb2); (try clear hk); (try clear hi); (try clear ho0); obtain ⟨Ao42, co42, eo42⟩ := Kd.R_slice HO107.out; subst eo42))
  go_ret
  exact ⟨by first | rfl | (simp [errW_none, errW_some] <;> rfl) | (simp [*, errW_none, errW_some] <;> rfl), bB⟩

end Go.Proofs.YtildmfegfkiknaaDoor.X
