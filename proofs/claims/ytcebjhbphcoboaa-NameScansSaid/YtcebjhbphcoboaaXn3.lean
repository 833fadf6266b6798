-- Written by a program of this session (wip/xp), out of the translation. Not trusted: Lean checks it.
import Derived.Test.YtcebjhbphcoboaaX0
import Derived.Test.YtcebjhbphcoboaaXn13
import Derived.Test.YtcebjhbphcoboaaXn15
import Derived.Test.YtcebjhbphcoboaaXn12
import Derived.Test.YtcebjhbphcoboaaXn14
import Derived.Test.YtcebjhbphcoboaaXn16
-- shrunk
namespace Go.Proofs.Ytcebjhbphcoboaa.X
open Go.RowKit Go.Proofs.YtcebjhbphcoboaaW.PrintWords Go.Proofs.YtcebjhbphcoboaaW.PrintLast Go.Proofs.YtcebjhbphcoboaaW.PrintMore
attribute [local go_sem] Lab.str_gtr Lab.str_leq Lab.str_geq max2_int min2_int max_two min_two max_three min_three max_four min_four   -- for this text's walks alone
set_option linter.unusedVariables false
set_option linter.unusedSimpArgs false

/-! ### ferrulelaw08_NameScans: function 3 -/
def ferrulelaw08_NameScans.f (k : Nat) (l0 : List Int) (a1 : Int) : Option (Bool) := (ferrulelaw08_awake.f).bind fun t101 => (if t101 = true then (if (l0.length : Int) > 600 then (some true) else ((name_Scan.f k l0 a1).bind fun bt102 => ((ferruleref08_Scan.f k (strOfNums l0) a1).bind fun bt104 => (if bt102.1 = bt104.1 then (if bt102.2 = bt104.2 then ((name_Good.f k (strOfNums l0)).bind fun t106 => ((ferruleref08_Good.f k (strOfNums l0)).bind fun t107 => (some (t106 == t107)))) else (some false)) else (some false))))) else (some false))
theorem ferrulelaw08_NameScans.mono : ∀ a0 a1 k, LeO (ferrulelaw08_NameScans.f k a0 a1) (ferrulelaw08_NameScans.f (k + 1) a0 a1) := by
 intro a0 a1 k
 unfold ferrulelaw08_NameScans.f
 repeat' first
   | (with_reducible exact ferruleref08_Good.mono _ _)
   | (with_reducible exact ferruleref08_Scan.mono _ _ _)
   | (with_reducible exact name_Good.mono _ _)
   | (with_reducible exact name_Scan.mono _ _ _)
   | (with_reducible exact LeO.refl _)
   | (with_reducible exact LeO.none _)
   | (with_reducible refine LeO.ite ?_ ?_)
   | (with_reducible refine LeO.bind ?_ (fun _ => ?_))
   | exact ferruleref08_Good.mono _ _
   | exact ferruleref08_Scan.mono _ _ _
   | exact name_Good.mono _ _
   | exact name_Scan.mono _ _ _
   | exact LeO.none _
   | refine LeO.ite ?_ ?_
   | refine LeO.bind ?_ (fun _ => ?_)
def ferrulelaw08_NameScans.T7 : Bool × List (List Nat × List Nat) := (true, [([], []), ([], []), ([0, 1], [0, 1]), ([2], [2]), ([3], [3]), ([3], [3]), ([4, 5, 3], [3, 4, 5]), ([3, 6], [3, 6]), ([7, 3], [7]), ([8], [8]), ([9, 8], [8, 9]), ([10, 8, 8], [8, 10]), ([8], [8]), ([12, 8], [8, 12]), ([13, 11, 8], [8, 13]), ([11, 14, 8], [8, 11, 14]), ([8, 15], [8, 15]), ([16, 14, 0, 1, 2, 3, 4, 5, 6, 7, 8, 9, 10, 11, 12, 13, 14, 15, 16], [16])])
def ferrulelaw08_NameScans.B7 : List Nat := [0, 0, 3, 7, 15, 15, 63, 127, 255, 511, 1023, 2047, 511, 4607, 16383, 32767, 65535, 131071]
theorem ferrulelaw08_NameScans.tab7 : rtab .any (opsOf Try.f3 7) = ferrulelaw08_NameScans.T7 := by kernel_rfl
theorem ferrulelaw08_NameScans.bits7 : waitsOk ferrulelaw08_NameScans.T7.2 ferrulelaw08_NameScans.B7 = true := by kernel_rfl
set_option maxHeartbeats 8000000 in
set_option maxRecDepth 100000 in
theorem ferrulelaw08_NameScans.calls (k : Nat) (A0 : Option Addr) (c0 : Nat) (l0 : List Int) (a1 : Int) (r : Bool) (w : World) (hr0 : Kd.C (Kd.int .u8) w A0 l0.length l0) (hc0 : l0.length ≤ c0) (h : ferrulelaw08_NameScans.f k l0 a1 = some r) :
  Calls Try.prog 3 #[.slice A0 l0.length c0, .int .i64 a1] w fun e w' => e = .returned (.bool r) ∧ Below w.heap.size w w' := by
 have HR0 := Aside0.mk hr0
 have HC0 := Aside0.mk hc0
 clear hr0 hc0
 have HB := Aside0.mk (Below.refl w.heap.size w)
 have H : ((ferrulelaw08_awake.f).bind fun t101 => (if t101 = true then (if (l0.length : Int) > 600 then (some true) else ((name_Scan.f k l0 a1).bind fun bt102 => ((ferruleref08_Scan.f k (strOfNums l0) a1).bind fun bt104 => (if bt102.1 = bt104.1 then (if bt102.2 = bt104.2 then ((name_Good.f k (strOfNums l0)).bind fun t106 => ((ferruleref08_Good.f k (strOfNums l0)).bind fun t107 => (some (t106 == t107)))) else (some false)) else (some false))))) else (some false))) = some r := h
 clear h
 replace H := Option.bind_eq_some_iff.mp H
 obtain ⟨t101, A30, H⟩ := H
 replace H : (if t101 = true then (if (l0.length : Int) > 600 then (some true) else ((name_Scan.f k l0 a1).bind fun bt102 => ((ferruleref08_Scan.f k (strOfNums l0) a1).bind fun bt104 => (if bt102.1 = bt104.1 then (if bt102.2 = bt104.2 then ((name_Good.f k (strOfNums l0)).bind fun t106 => ((ferruleref08_Good.f k (strOfNums l0)).bind fun t107 => (some (t106 == t107)))) else (some false)) else (some false))))) else (some false)) = some r := H
 have A3 := Aside0.mk A30
 clear A30
 by_cases c4 : t101 = true
 ·subst c4
  have H1 : (if (l0.length : Int) > 600 then (some true) else ((name_Scan.f k l0 a1).bind fun bt102 => ((ferruleref08_Scan.f k (strOfNums l0) a1).bind fun bt104 => (if bt102.1 = bt104.1 then (if bt102.2 = bt104.2 then ((name_Good.f k (strOfNums l0)).bind fun t106 => ((ferruleref08_Good.f k (strOfNums l0)).bind fun t107 => (some (t106 == t107)))) else (some false)) else (some false))))) = some r := by rw [if_pos rfl] at H; exact H
  clear H
  have H := H1
  clear H1
  by_cases c5 : (l0.length : Int) > 600
  ·rw [if_pos c5] at H
   have c5b0 : decide (600 < (l0.length : Int)) = true := decide_eq_true c5
   have c5b1 : decide (600 < l0.length) = true := decide_eq_true (by omega)
   clear c5
   obtain rfl := Option.some.inj H
   go_enter Try.func3, Try.ntmps3
   go_wp2_with (first | ((with_reducible refine gate_callee (f := 12) rfl ?_); refine goesL_ (some 9) rfl rfl Try.func12 (by kernel_rfl) rfl #[] rfl bM ?_; (with_reducible refine (ferrulelaw08_awake.calls  true _ A3.out).mono ?_); rintro e w6 ⟨rfl, hb⟩; refine ⟨_, rfl, ?_⟩; replace HB := aB HB hb; (try clear hb); (try clear hb2); (try clear hk); (try clear hi)))
   go_ret
   exact ⟨by first | rfl | (simp [errW_none, errW_some] <;> rfl) | (simp [*, errW_none, errW_some] <;> rfl), bB⟩
  ·rw [if_neg c5] at H
   have c5b0 : decide (600 < (l0.length : Int)) = false := decide_eq_false c5
   have c5b1 : decide (600 < l0.length) = false := decide_eq_false (by omega)
   clear c5
   replace H := Option.bind_eq_some_iff.mp H
   obtain ⟨⟨t102, t103⟩, A70, H⟩ := H
   replace H : ((ferruleref08_Scan.f k (strOfNums l0) a1).bind fun bt104 => (if t102 = bt104.1 then (if t103 = bt104.2 then ((name_Good.f k (strOfNums l0)).bind fun t106 => ((ferruleref08_Good.f k (strOfNums l0)).bind fun t107 => (some (t106 == t107)))) else (some false)) else (some false))) = some r := H
   have A7 := Aside0.mk A70
   clear A70
   replace H := Option.bind_eq_some_iff.mp H
   obtain ⟨⟨t104, t105⟩, A80, H⟩ := H
   replace H : (if t102 = t104 then (if t103 = t105 then ((name_Good.f k (strOfNums l0)).bind fun t106 => ((ferruleref08_Good.f k (strOfNums l0)).bind fun t107 => (some (t106 == t107)))) else (some false)) else (some false)) = some r := H
   have A8 := Aside0.mk A80
   clear A80
   by_cases c9 : t102 = t104
   ·rw [if_pos c9] at H
    have c9b0 : (t102 == t104) = true := beq_iff_eq.mpr c9
    have c9b1 : (t102 != t104) = false := bne_eq_false_iff_eq.mpr c9
    clear c9
    by_cases c10 : t103 = t105
    ·rw [if_pos c10] at H
     have c10b0 : (t103 == t105) = true := beq_iff_eq.mpr c10
     have c10b1 : (t103 != t105) = false := bne_eq_false_iff_eq.mpr c10
     clear c10
     replace H := Option.bind_eq_some_iff.mp H
     obtain ⟨t106, A110, H⟩ := H
     replace H : ((ferruleref08_Good.f k (strOfNums l0)).bind fun t107 => (some (t106 == t107))) = some r := H
     have A11 := Aside0.mk A110
     clear A110
     replace H := Option.bind_eq_some_iff.mp H
     obtain ⟨t107, A120, H⟩ := H
     replace H : (some (t106 == t107)) = some r := H
     have A12 := Aside0.mk A120
     clear A120
     obtain rfl := Option.some.inj H
     go_enter Try.func3, Try.ntmps3
     try go_wp2_with (first | ((with_reducible refine gate_callee (f := 12) rfl ?_); refine goesL_ (some 9) rfl rfl Try.func12 (by kernel_rfl) rfl #[] rfl bM ?_; (with_reducible refine (ferrulelaw08_awake.calls  true _ A3.out).mono ?_); rintro e w13 ⟨rfl, hb⟩; refine ⟨_, rfl, ?_⟩; replace HB := aB HB hb; (try clear hb); (try clear hb2); (try clear hk); (try clear hi)) | ((with_reducible refine gate_callee (f := 13) rfl ?_); refine goesL_ (some 17) rfl rfl Try.func13 (by kernel_rfl) rfl #[.slice A0 l0.length c0, .int .i64 a1] rfl bM ?_; (with_reducible refine (name_Scan.calls k _ _ l0 a1 t102 t103 _ ?side1 ?side2 A7.out).mono ?_); (case side1 => exact sW (Kd.C_below HR0.out HB.out)); (case side2 => exact HC0.out); rintro e w' ⟨rfl, ⟨nd, rfl⟩⟩; refine ⟨_, rfl, ?_⟩; have hcv14 := Kd.C_string (P := Try.prog) (A := A0) (c := c0) Try.underlying22 Try.underlying5 Try.underlying9 (Kd.C_below HR0.out HB.out); have hcvn14 := fun n_ => Kd.C_string (P := Try.prog) (A := A0) (c := c0) Try.underlying22 Try.underlying5 Try.underlying9 (Kd.C_drewN (Kd.C_below HR0.out HB.out) n_)) | ((with_reducible refine gate_callee (f := 14) rfl ?_); refine goesL_ (some 24) rfl rfl Try.func14 (by kernel_rfl) rfl #[.string (strOfNums l0), .int .i64 a1] rfl bM ?_; (with_reducible refine (ferruleref08_Scan.calls k (strOfNums l0) a1 t104 t105 _ A8.out).mono ?_); rintro e w' ⟨rfl, ⟨nd, rfl⟩⟩; refine ⟨_, rfl, ?_⟩))
     (try (rw [drewN_self w13]; generalize hq_ : World.drewN w13 _ = w13; have n0_ : Aside0 (Below w.heap.size w w13) := ⟨by rw [← hq_]; exact bB⟩; clear HB hq_; have HB := n0_; clear n0_))
     replace HB := Aside0.mk (below_drew1 HB.out)
     have hcv16 := Kd.C_string (P := Try.prog) (A := A0) (c := c0) Try.underlying22 Try.underlying5 Try.underlying9 (Kd.C_below HR0.out HB.out)
     have hcvn16 := fun n_ => Kd.C_string (P := Try.prog) (A := A0) (c := c0) Try.underlying22 Try.underlying5 Try.underlying9 (Kd.C_drewN (Kd.C_below HR0.out HB.out) n_)
     refine start_ (n := 18) (S := fun w' => Sem.run Try.prog (Go.convert 22 9 (Value.slice A0 l0.length c0)) w' = Result.ok (.string (strOfNums l0)) w') (ds := []) #[false, false, false, false, false, false, false, false, false, false, false, false, false, false, false, false, false, false] (by kernel_rfl) rfl rfl (Kd.C_string (P := Try.prog) (A := A0) (c := c0) Try.underlying22 Try.underlying5 Try.underlying9 (Kd.C_below HR0.out HB.out)) (fun hHeld => ?_); refine with_tabW ferrulelaw08_NameScans.tab7 ferrulelaw08_NameScans.bits7 (fun HT_ HW_ => ?_)
     generalize w13.drew = w15 at HB hHeld ⊢
     refine pV 0 27 rfl rfl ?_
     refine pV 1 28 rfl rfl ?_
     refine pV 2 29 rfl rfl ?_
     refine pV 3 30 rfl rfl ?_
     refine pV 4 31 rfl rfl ?_
     refine pV 5 32 rfl rfl ?_
     refine pV 6 33 rfl rfl ?_
     refine pV 7 34 rfl rfl ?_
     refine pV 8 35 rfl rfl ?_
     refine pV 9 36 rfl rfl ?_
     refine tV (hy := by refine Or.inl ⟨by rfl, ?_⟩; intro w_ hs_; go_simp; with_reducible rfl) 10 37 rfl rfl ?_
     refine pV 12 39 rfl rfl ?_
     refine tV (hy := by refine Or.inl ⟨by rfl, ?_⟩; intro w_ hs_; go_simp; with_reducible rfl) 13 40 rfl rfl ?_
     refine one_ (i := 11) (N := some 38) #[true, true, true, true, true, true, true, true, true, true, true, true, true, true, false, false, false, false] rfl rfl (one_of HT_.out (by kernel_rfl)) (by decide) (fun K hK => ?_)
     refine goes_ Try.func15 (by kernel_rfl) rfl #[.string (strOfNums l0)] (by rfl) rfl rfl bM ?_
     with_reducible refine (name_Good.calls k (strOfNums l0) t106 _ A11.out).mono ?_
     rintro e w17 ⟨rfl, hb⟩
     refine ⟨_, rfl, ?_⟩
     replace HB := aB HB hb
     (try clear hb)
     (try clear hb2)
     (try clear hk)
     (try clear hi)
     have hcv18 := Kd.C_string (P := Try.prog) (A := A0) (c := c0) Try.underlying22 Try.underlying5 Try.underlying9 (Kd.C_below HR0.out HB.out)
     have hcvn18 := fun n_ => Kd.C_string (P := Try.prog) (A := A0) (c := c0) Try.underlying22 Try.underlying5 Try.underlying9 (Kd.C_drewN (Kd.C_below HR0.out HB.out) n_)
     refine hK.out _ _ (Kd.C_string (P := Try.prog) (A := A0) (c := c0) Try.underlying22 Try.underlying5 Try.underlying9 (Kd.C_below HR0.out HB.out)) (fun hHeld => ?_)
     clear hK K
     refine norm_ (a' := ?_) ?_ ?_
     rotate_left
     ·show Act.put _ (some 38) _ = _
      simp only [Act.put, List.setIfInBounds_toArray, List.set_cons_zero, List.set_cons_succ, i64_w, i32_w]
      rfl
     refine one_ (i := 14) (N := some 41) #[true, true, true, true, true, true, true, true, true, true, true, true, true, true, true, false, false, false] rfl rfl (one_of HT_.out (by kernel_rfl)) (by decide) (fun K hK => ?_)
     refine goes_ Try.func16 (by kernel_rfl) rfl #[.string (strOfNums l0)] (by rfl) rfl rfl bM ?_
     with_reducible refine (ferruleref08_Good.calls k (strOfNums l0) t107 _ A12.out).mono ?_
     rintro e w' ⟨rfl, ⟨nd, rfl⟩⟩
     refine ⟨_, rfl, ?_⟩
     refine hK.out _ _ (Kd.C_string (P := Try.prog) (A := A0) (c := c0) Try.underlying22 Try.underlying5 Try.underlying9 (Kd.C_drewN (Kd.C_below HR0.out HB.out) _)) (fun hHeld => ?_)
     clear hK K
     refine norm_ (a' := ?_) ?_ ?_
     rotate_left
     ·show Act.put _ (some 41) _ = _
      simp only [Act.put, List.setIfInBounds_toArray, List.set_cons_zero, List.set_cons_succ, i64_w, i32_w]
      rfl
     refine pV 15 42 rfl rfl ?_
     refine pV 16 43 rfl rfl ?_
     refine pV 17 4 rfl rfl ?_
     refine done_ (done_of HT_.out (by kernel_rfl)) ?_
     try go_wp2
     go_ret
     exact ⟨by first | rfl | (simp [errW_none, errW_some] <;> rfl) | (simp [*, errW_none, errW_some] <;> rfl), bB⟩
    ·rw [if_neg c10] at H
     have c10b0 : (t103 == t105) = false := beq_eq_false_iff_ne.mpr c10
     have c10b1 : (t103 != t105) = true := bne_iff_ne.mpr c10
     obtain rfl := Option.some.inj H
     go_enter Try.func3, Try.ntmps3
     try go_wp2_with (first | ((with_reducible refine gate_callee (f := 12) rfl ?_); refine goesL_ (some 9) rfl rfl Try.func12 (by kernel_rfl) rfl #[] rfl bM ?_; (with_reducible refine (ferrulelaw08_awake.calls  true _ A3.out).mono ?_); rintro e w20 ⟨rfl, hb⟩; refine ⟨_, rfl, ?_⟩; replace HB := aB HB hb; (try clear hb); (try clear hb2); (try clear hk); (try clear hi)) | ((with_reducible refine gate_callee (f := 13) rfl ?_); refine goesL_ (some 17) rfl rfl Try.func13 (by kernel_rfl) rfl #[.slice A0 l0.length c0, .int .i64 a1] rfl bM ?_; (with_reducible refine (name_Scan.calls k _ _ l0 a1 t102 t103 _ ?side1 ?side2 A7.out).mono ?_); (case side1 => exact sW (Kd.C_below HR0.out HB.out)); (case side2 => exact HC0.out); rintro e w' ⟨rfl, ⟨nd, rfl⟩⟩; refine ⟨_, rfl, ?_⟩; have hcv21 := Kd.C_string (P := Try.prog) (A := A0) (c := c0) Try.underlying22 Try.underlying5 Try.underlying9 (Kd.C_below HR0.out HB.out); have hcvn21 := fun n_ => Kd.C_string (P := Try.prog) (A := A0) (c := c0) Try.underlying22 Try.underlying5 Try.underlying9 (Kd.C_drewN (Kd.C_below HR0.out HB.out) n_)) | ((with_reducible refine gate_callee (f := 14) rfl ?_); refine goesL_ (some 24) rfl rfl Try.func14 (by kernel_rfl) rfl #[.string (strOfNums l0), .int .i64 a1] rfl bM ?_; (with_reducible refine (ferruleref08_Scan.calls k (strOfNums l0) a1 t104 t105 _ A8.out).mono ?_); rintro e w' ⟨rfl, ⟨nd, rfl⟩⟩; refine ⟨_, rfl, ?_⟩))
     (try (rw [drewN_self w20]; generalize hq_ : World.drewN w20 _ = w20; have n0_ : Aside0 (Below w.heap.size w w20) := ⟨by rw [← hq_]; exact bB⟩; clear HB hq_; have HB := n0_; clear n0_))
     replace HB := Aside0.mk (below_drew1 HB.out)
     refine start_ (n := 18) (S := fun w' => True) (ds := []) #[false, false, false, false, false, false, false, false, false, false, false, false, false, false, false, false, false, false] (by kernel_rfl) rfl rfl trivial (fun hHeld => ?_); refine with_tabW ferrulelaw08_NameScans.tab7 ferrulelaw08_NameScans.bits7 (fun HT_ HW_ => ?_)
     generalize w20.drew = w22 at HB hHeld ⊢
     refine pV 0 27 rfl rfl ?_
     refine pV 1 28 rfl rfl ?_
     refine pV 2 29 rfl rfl ?_
     refine pV 3 30 rfl rfl ?_
     refine pV 4 31 rfl rfl ?_
     refine pV 5 32 rfl rfl ?_
     refine pV 6 33 rfl rfl ?_
     refine pV 7 34 rfl rfl ?_
     refine pV 8 35 rfl rfl ?_
     refine pU 9 36 rfl rfl ?_
     refine pU 10 37 rfl rfl ?_
     refine pU 11 38 rfl rfl ?_
     refine pU 12 39 rfl rfl ?_
     refine pU 13 40 rfl rfl ?_
     refine pU 14 41 rfl rfl ?_
     refine pU 15 42 rfl rfl ?_
     refine pV 16 43 rfl rfl ?_
     refine pV 17 4 rfl rfl ?_
     refine done_ (done_of HT_.out (by kernel_rfl)) ?_
     try go_wp2
     go_ret
     exact ⟨by first | rfl | (simp [errW_none, errW_some] <;> rfl) | (simp [*, errW_none, errW_some] <;> rfl), bB⟩
   ·rw [if_neg c9] at H
    have c9b0 : (t102 == t104) = false := beq_eq_false_iff_ne.mpr c9
    have c9b1 : (t102 != t104) = true := bne_iff_ne.mpr c9
    obtain rfl := Option.some.inj H
    go_enter Try.func3, Try.ntmps3
    try go_wp2_with (first | ((with_reducible refine gate_callee (f := 12) rfl ?_); refine goesL_ (some 9) rfl rfl Try.func12 (by kernel_rfl) rfl #[] rfl bM ?_; (with_reducible refine (ferrulelaw08_awake.calls  true _ A3.out).mono ?_); rintro e w23 ⟨rfl, hb⟩; refine ⟨_, rfl, ?_⟩; replace HB := aB HB hb; (try clear hb); (try clear hb2); (try clear hk); (try clear hi)) | ((with_reducible refine gate_callee (f := 13) rfl ?_); refine goesL_ (some 17) rfl rfl Try.func13 (by kernel_rfl) rfl #[.slice A0 l0.length c0, .int .i64 a1] rfl bM ?_; (with_reducible refine (name_Scan.calls k _ _ l0 a1 t102 t103 _ ?side1 ?side2 A7.out).mono ?_); (case side1 => exact sW (Kd.C_below HR0.out HB.out)); (case side2 => exact HC0.out); rintro e w' ⟨rfl, ⟨nd, rfl⟩⟩; refine ⟨_, rfl, ?_⟩; have hcv24 := Kd.C_string (P := Try.prog) (A := A0) (c := c0) Try.underlying22 Try.underlying5 Try.underlying9 (Kd.C_below HR0.out HB.out); have hcvn24 := fun n_ => Kd.C_string (P := Try.prog) (A := A0) (c := c0) Try.underlying22 Try.underlying5 Try.underlying9 (Kd.C_drewN (Kd.C_below HR0.out HB.out) n_)) | ((with_reducible refine gate_callee (f := 14) rfl ?_); refine goesL_ (some 24) rfl rfl Try.func14 (by kernel_rfl) rfl #[.string (strOfNums l0), .int .i64 a1] rfl bM ?_; (with_reducible refine (ferruleref08_Scan.calls k (strOfNums l0) a1 t104 t105 _ A8.out).mono ?_); rintro e w' ⟨rfl, ⟨nd, rfl⟩⟩; refine ⟨_, rfl, ?_⟩))
    (try (rw [drewN_self w23]; generalize hq_ : World.drewN w23 _ = w23; have n0_ : Aside0 (Below w.heap.size w w23) := ⟨by rw [← hq_]; exact bB⟩; clear HB hq_; have HB := n0_; clear n0_))
    replace HB := Aside0.mk (below_drew1 HB.out)
    refine start_ (n := 18) (S := fun w' => True) (ds := []) #[false, false, false, false, false, false, false, false, false, false, false, false, false, false, false, false, false, false] (by kernel_rfl) rfl rfl trivial (fun hHeld => ?_); refine with_tabW ferrulelaw08_NameScans.tab7 ferrulelaw08_NameScans.bits7 (fun HT_ HW_ => ?_)
    generalize w23.drew = w25 at HB hHeld ⊢
    refine pV 0 27 rfl rfl ?_
    refine pV 1 28 rfl rfl ?_
    refine pV 2 29 rfl rfl ?_
    refine pV 3 30 rfl rfl ?_
    refine pU 4 31 rfl rfl ?_
    refine pU 5 32 rfl rfl ?_
    refine pU 6 33 rfl rfl ?_
    refine pV 7 34 rfl rfl ?_
    refine pV 8 35 rfl rfl ?_
    refine pU 9 36 rfl rfl ?_
    refine pU 10 37 rfl rfl ?_
    refine pU 11 38 rfl rfl ?_
    refine pU 12 39 rfl rfl ?_
    refine pU 13 40 rfl rfl ?_
    refine pU 14 41 rfl rfl ?_
    refine pU 15 42 rfl rfl ?_
    refine pV 16 43 rfl rfl ?_
    refine pV 17 4 rfl rfl ?_
    refine done_ (done_of HT_.out (by kernel_rfl)) ?_
    try go_wp2
    go_ret
    exact ⟨by first | rfl | (simp [errW_none, errW_some] <;> rfl) | (simp [*, errW_none, errW_some] <;> rfl), bB⟩
 ·replace c4 := Bool.eq_false_iff.mpr c4
  subst c4
  have H1 : (some false) = some r := by rw [if_neg (show ¬ (false = true) by decide)] at H; exact H
  clear H
  have H := H1
  clear H1
  obtain rfl := Option.some.inj H
  go_enter Try.func3, Try.ntmps3
  go_wp2_with (first | ((with_reducible refine gate_callee (f := 12) rfl ?_); refine goesL_ (some 9) rfl rfl Try.func12 (by kernel_rfl) rfl #[] rfl bM ?_; (with_reducible refine (ferrulelaw08_awake.calls  false _ A3.out).mono ?_); rintro e w26 ⟨rfl, hb⟩; refine ⟨_, rfl, ?_⟩; replace HB := aB HB hb; (try clear hb); (try clear hb2); (try clear hk); (try clear hi)))
  go_ret
  exact ⟨by first | rfl | (simp [errW_none, errW_some] <;> rfl) | (simp [*, errW_none, errW_some] <;> rfl), bB⟩

/-- THE ONE PURE STATEMENT of ferrulelaw08_NameScans: yours. -/
def ferrulelaw08_NameScans.Pure : Prop := ∀ (l0 : List Int) (a1 : Int), l0.length ≤ maxLen → l0.length * 1 ≤ 140737488351232 → (∀ x ∈ l0, (Lit.int .u8 x).wf = true) → (Lit.int .i64 a1).wf = true → ∃ k, ferrulelaw08_NameScans.f k l0 a1 = some true
theorem ferrulelaw08_NameScans.walk (P : ferrulelaw08_NameScans.Pure) (a0 : Option Addr) (len0 cap0 : Nat) (z0 : List Int) (a1 : Int) (w : World) (w0 : (a0 = none ∧ len0 = 0 ∧ cap0 = 0 ∧ z0 = []) ∨ ∃ x, a0 = some x ∧ len0 ≤ cap0 ∧ cap0 ≤ maxLen ∧ z0.length = cap0 ∧ (∀ i, i < z0.length → w.cell? (x.add i) = some (.int .u8 (z0.getD i 0))) ∧ ∀ n ∈ z0, (Lit.int .u8 n).wf = true) (y0 : len0 * 1 ≤ 140737488351232) (w1 : (Lit.int .i64 a1).wf = true) :
  Calls Try.prog 3 #[.slice a0 len0 cap0, .int .i64 a1] w fun e w' => e = .returned (.bool true) ∧ Below w.heap.size w w' := by
 obtain ⟨l0, rfl, hr0, hm0, hw0, hc0⟩ := ReadsInt.ofRowC w0
 obtain ⟨k, h⟩ := P l0 a1 hm0 y0 hw0 w1
 refine (ferrulelaw08_NameScans.calls k _ _ l0 a1 true w (Kd.C_of_reads (d := (0 : Int)) (h1 := fun _ => rfl) hr0) hc0 h).mono ?_
 rintro e w' ⟨rfl, hd⟩
 exact ⟨rfl, hd⟩

end Go.Proofs.Ytcebjhbphcoboaa.X
