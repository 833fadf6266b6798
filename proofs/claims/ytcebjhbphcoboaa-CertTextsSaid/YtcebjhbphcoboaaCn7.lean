-- Written by a program of this session (wip/xp), out of the translation. Not trusted: Lean checks it.
import Derived.Test.YtcebjhbphcoboaaC0
import Derived.Test.YtcebjhbphcoboaaCn28
import Derived.Test.YtcebjhbphcoboaaCn27
import Derived.Test.YtcebjhbphcoboaaCn25
import Derived.Test.YtcebjhbphcoboaaCn26
import Derived.Test.YtcebjhbphcoboaaCn29
import Derived.Test.YtcebjhbphcoboaaCn30
import Derived.Test.YtcebjhbphcoboaaCn31
import Derived.Test.YtcebjhbphcoboaaCn32
-- shrunk
namespace Go.Proofs.Ytcebjhbphcoboaa.C
open Go.RowKit Go.Proofs.YtcebjhbphcoboaaW.PrintWords Go.Proofs.YtcebjhbphcoboaaW.PrintLast Go.Proofs.YtcebjhbphcoboaaW.PrintMore
attribute [local go_sem] Lab.str_gtr Lab.str_leq Lab.str_geq max2_int min2_int max_two min_two max_three min_three max_four min_four   -- for this text's walks alone
set_option linter.unusedVariables false
set_option linter.unusedSimpArgs false

/-! ### ferrulelaw23_CertTexts: function 7 -/
def ferrulelaw23_CertTexts.f (k : Nat) (l0_0 : List Int) (l0_1 : List (S95)) : Option (Bool) := (ferrulelaw23_awake.f k).bind fun t102 => (if t102 = true then ((ferrulelaw23_few.f k l0_0 l0_1).bind fun t103 => (if t103 = true then ((cert_Bytes.f l0_0 l0_1).bind fun bt104 => ((cert_Good.f k l0_0 l0_1).bind fun t108 => ((ferruleref23_Good.f k l0_0 l0_1).bind fun t109 => (if (t108 != t109) = true then (some false) else ((ferruleref23_Good.f k l0_0 l0_1).bind fun t110 => (if t110 = true then ((cert_Read.f bt104.1).bind fun bt111 => (if bt104.2 = 0 then ((ferruleref23_Bytes.f k l0_0 l0_1).bind fun t120 => (if (strOfNums bt104.1).toList = (strOfNums t120).toList then (if bt111.2.2.2 = 0 then (if bt111.2.2.1 = 0 then ((ferruleref23_Same.f k l0_0 l0_1 bt111.1 bt111.2.1).bind fun t123 => (some t123)) else (some false)) else (some false)) else (some false))) else (some false))) else (if (bt104.1.length : Int) = 0 then (some (bt104.2 == 3)) else (some false)))))))) else (some true))) else (some false))
theorem ferrulelaw23_CertTexts.mono : ∀ a0 a1 k, LeO (ferrulelaw23_CertTexts.f k a0 a1) (ferrulelaw23_CertTexts.f (k + 1) a0 a1) := by
 intro a0 a1 k
 unfold ferrulelaw23_CertTexts.f
 repeat' first
   | (with_reducible exact cert_Good.mono _ _ _)
   | (with_reducible exact ferrulelaw23_awake.mono _)
   | (with_reducible exact ferrulelaw23_few.mono _ _ _)
   | (with_reducible exact ferruleref23_Bytes.mono _ _ _)
   | (with_reducible exact ferruleref23_Good.mono _ _ _)
   | (with_reducible exact ferruleref23_Same.mono _ _ _ _ _)
   | (with_reducible exact LeO.refl _)
   | (with_reducible exact LeO.none _)
   | (with_reducible refine LeO.ite ?_ ?_)
   | (with_reducible refine LeO.bind ?_ (fun _ => ?_))
   | exact cert_Good.mono _ _ _
   | exact ferrulelaw23_awake.mono _
   | exact ferrulelaw23_few.mono _ _ _
   | exact ferruleref23_Bytes.mono _ _ _
   | exact ferruleref23_Good.mono _ _ _
   | exact ferruleref23_Same.mono _ _ _ _ _
   | exact LeO.none _
   | refine LeO.ite ?_ ?_
   | refine LeO.bind ?_ (fun _ => ?_)
def ferrulelaw23_CertTexts.T11 : Bool × List (List Nat × List Nat) := (true, [([], []), ([0], [0]), ([1], [1]), ([2], [2]), ([3, 2], [2, 3]), ([2], [2]), ([5, 2, 2], [2, 5]), ([6, 2], [2, 6]), ([4, 7, 2], [2, 4, 7]), ([2, 8], [2, 8]), ([9, 6], [9]), ([10], [10]), ([11, 10], [10, 11]), ([10, 12], [10, 12]), ([13, 10], [13]), ([14], [14]), ([15, 14], [14, 15]), ([14, 16], [14, 16]), ([17, 14], [17]), ([18], [18]), ([18], [18]), ([19, 20, 18, 18], [18, 19, 20]), ([18, 21], [18, 21]), ([22, 21, 0, 1, 2, 3, 4, 5, 6, 7, 8, 9, 10, 11, 12, 13, 14, 15, 16, 17, 18, 19, 20, 21, 22], [22])])
def ferrulelaw23_CertTexts.B11 : List Nat := [0, 1, 3, 7, 15, 7, 39, 103, 255, 511, 1023, 2047, 4095, 8191, 16383, 32767, 65535, 131071, 262143, 524287, 524287, 2097151, 4194303, 8388607]
theorem ferrulelaw23_CertTexts.tab11 : rtab .any (opsOf Try.f7 11) = ferrulelaw23_CertTexts.T11 := by kernel_rfl
theorem ferrulelaw23_CertTexts.bits11 : waitsOk ferrulelaw23_CertTexts.T11.2 ferrulelaw23_CertTexts.B11 = true := by kernel_rfl
set_option maxHeartbeats 8000000 in
set_option maxRecDepth 100000 in
theorem ferrulelaw23_CertTexts.calls (k : Nat) (A0_0 : Option Addr) (c0_0 : Nat) (l0_0 : List Int) (A0_1 : Option Addr) (c0_1 : Nat) (l0_1 : List (S95)) (r : Bool) (w : World) (hr0_0 : Kd.C (Kd.int .i64) w A0_0 l0_0.length l0_0) (hc0_0 : l0_0.length ≤ c0_0) (hr0_1 : Kd.C k95 w A0_1 l0_1.length l0_1) (hc0_1 : l0_1.length ≤ c0_1) (h : ferrulelaw23_CertTexts.f k l0_0 l0_1 = some r) :
  Calls Try.prog 7 #[.agg #[.slice A0_0 l0_0.length c0_0, .slice A0_1 l0_1.length c0_1]] w fun e w' => e = .returned (.bool r) ∧ Below w.heap.size w w' := by
 have hu52 := Try.underlying52
 have HR0_0 := Aside0.mk hr0_0
 have HC0_0 := Aside0.mk hc0_0
 clear hr0_0 hc0_0
 have HR0_1 := Aside0.mk hr0_1
 have HC0_1 := Aside0.mk hc0_1
 clear hr0_1 hc0_1
 have HB := Aside0.mk (Below.refl w.heap.size w)
 have H : ((ferrulelaw23_awake.f k).bind fun t102 => (if t102 = true then ((ferrulelaw23_few.f k l0_0 l0_1).bind fun t103 => (if t103 = true then ((cert_Bytes.f l0_0 l0_1).bind fun bt104 => ((cert_Good.f k l0_0 l0_1).bind fun t108 => ((ferruleref23_Good.f k l0_0 l0_1).bind fun t109 => (if (t108 != t109) = true then (some false) else ((ferruleref23_Good.f k l0_0 l0_1).bind fun t110 => (if t110 = true then ((cert_Read.f bt104.1).bind fun bt111 => (if bt104.2 = 0 then ((ferruleref23_Bytes.f k l0_0 l0_1).bind fun t120 => (if (strOfNums bt104.1).toList = (strOfNums t120).toList then (if bt111.2.2.2 = 0 then (if bt111.2.2.1 = 0 then ((ferruleref23_Same.f k l0_0 l0_1 bt111.1 bt111.2.1).bind fun t123 => (some t123)) else (some false)) else (some false)) else (some false))) else (some false))) else (if (bt104.1.length : Int) = 0 then (some (bt104.2 == 3)) else (some false)))))))) else (some true))) else (some false))) = some r := h
 clear h
 replace H := Option.bind_eq_some_iff.mp H
 obtain ⟨t102, A20, H⟩ := H
 replace H : (if t102 = true then ((ferrulelaw23_few.f k l0_0 l0_1).bind fun t103 => (if t103 = true then ((cert_Bytes.f l0_0 l0_1).bind fun bt104 => ((cert_Good.f k l0_0 l0_1).bind fun t108 => ((ferruleref23_Good.f k l0_0 l0_1).bind fun t109 => (if (t108 != t109) = true then (some false) else ((ferruleref23_Good.f k l0_0 l0_1).bind fun t110 => (if t110 = true then ((cert_Read.f bt104.1).bind fun bt111 => (if bt104.2 = 0 then ((ferruleref23_Bytes.f k l0_0 l0_1).bind fun t120 => (if (strOfNums bt104.1).toList = (strOfNums t120).toList then (if bt111.2.2.2 = 0 then (if bt111.2.2.1 = 0 then ((ferruleref23_Same.f k l0_0 l0_1 bt111.1 bt111.2.1).bind fun t123 => (some t123)) else (some false)) else (some false)) else (some false))) else (some false))) else (if (bt104.1.length : Int) = 0 then (some (bt104.2 == 3)) else (some false)))))))) else (some true))) else (some false)) = some r := H
 have A2 := Aside0.mk A20
 clear A20
 by_cases c3 : t102 = true
 ·subst c3
  have H1 : ((ferrulelaw23_few.f k l0_0 l0_1).bind fun t103 => (if t103 = true then ((cert_Bytes.f l0_0 l0_1).bind fun bt104 => ((cert_Good.f k l0_0 l0_1).bind fun t108 => ((ferruleref23_Good.f k l0_0 l0_1).bind fun t109 => (if (t108 != t109) = true then (some false) else ((ferruleref23_Good.f k l0_0 l0_1).bind fun t110 => (if t110 = true then ((cert_Read.f bt104.1).bind fun bt111 => (if bt104.2 = 0 then ((ferruleref23_Bytes.f k l0_0 l0_1).bind fun t120 => (if (strOfNums bt104.1).toList = (strOfNums t120).toList then (if bt111.2.2.2 = 0 then (if bt111.2.2.1 = 0 then ((ferruleref23_Same.f k l0_0 l0_1 bt111.1 bt111.2.1).bind fun t123 => (some t123)) else (some false)) else (some false)) else (some false))) else (some false))) else (if (bt104.1.length : Int) = 0 then (some (bt104.2 == 3)) else (some false)))))))) else (some true))) = some r := by rw [if_pos rfl] at H; exact H
  clear H
  have H := H1
  clear H1
  replace H := Option.bind_eq_some_iff.mp H
  obtain ⟨t103, A40, H⟩ := H
  replace H : (if t103 = true then ((cert_Bytes.f l0_0 l0_1).bind fun bt104 => ((cert_Good.f k l0_0 l0_1).bind fun t108 => ((ferruleref23_Good.f k l0_0 l0_1).bind fun t109 => (if (t108 != t109) = true then (some false) else ((ferruleref23_Good.f k l0_0 l0_1).bind fun t110 => (if t110 = true then ((cert_Read.f bt104.1).bind fun bt111 => (if bt104.2 = 0 then ((ferruleref23_Bytes.f k l0_0 l0_1).bind fun t120 => (if (strOfNums bt104.1).toList = (strOfNums t120).toList then (if bt111.2.2.2 = 0 then (if bt111.2.2.1 = 0 then ((ferruleref23_Same.f k l0_0 l0_1 bt111.1 bt111.2.1).bind fun t123 => (some t123)) else (some false)) else (some false)) else (some false))) else (some false))) else (if (bt104.1.length : Int) = 0 then (some (bt104.2 == 3)) else (some false)))))))) else (some true)) = some r := H
  have A4 := Aside0.mk A40
  clear A40
  by_cases c5 : t103 = true
  ·subst c5
   have H1 : ((cert_Bytes.f l0_0 l0_1).bind fun bt104 => ((cert_Good.f k l0_0 l0_1).bind fun t108 => ((ferruleref23_Good.f k l0_0 l0_1).bind fun t109 => (if (t108 != t109) = true then (some false) else ((ferruleref23_Good.f k l0_0 l0_1).bind fun t110 => (if t110 = true then ((cert_Read.f bt104.1).bind fun bt111 => (if bt104.2 = 0 then ((ferruleref23_Bytes.f k l0_0 l0_1).bind fun t120 => (if (strOfNums bt104.1).toList = (strOfNums t120).toList then (if bt111.2.2.2 = 0 then (if bt111.2.2.1 = 0 then ((ferruleref23_Same.f k l0_0 l0_1 bt111.1 bt111.2.1).bind fun t123 => (some t123)) else (some false)) else (some false)) else (some false))) else (some false))) else (if (bt104.1.length : Int) = 0 then (some (bt104.2 == 3)) else (some false)))))))) = some r := by rw [if_pos rfl] at H; exact H
   clear H
   have H := H1
   clear H1
   replace H := Option.bind_eq_some_iff.mp H
   obtain ⟨⟨t104, t107⟩, A60, H⟩ := H
   replace H : ((cert_Good.f k l0_0 l0_1).bind fun t108 => ((ferruleref23_Good.f k l0_0 l0_1).bind fun t109 => (if (t108 != t109) = true then (some false) else ((ferruleref23_Good.f k l0_0 l0_1).bind fun t110 => (if t110 = true then ((cert_Read.f t104).bind fun bt111 => (if t107 = 0 then ((ferruleref23_Bytes.f k l0_0 l0_1).bind fun t120 => (if (strOfNums t104).toList = (strOfNums t120).toList then (if bt111.2.2.2 = 0 then (if bt111.2.2.1 = 0 then ((ferruleref23_Same.f k l0_0 l0_1 bt111.1 bt111.2.1).bind fun t123 => (some t123)) else (some false)) else (some false)) else (some false))) else (some false))) else (if (t104.length : Int) = 0 then (some (t107 == 3)) else (some false))))))) = some r := H
   have A6 := Aside0.mk A60
   clear A60
   replace H := Option.bind_eq_some_iff.mp H
   obtain ⟨t108, A70, H⟩ := H
   replace H : ((ferruleref23_Good.f k l0_0 l0_1).bind fun t109 => (if (t108 != t109) = true then (some false) else ((ferruleref23_Good.f k l0_0 l0_1).bind fun t110 => (if t110 = true then ((cert_Read.f t104).bind fun bt111 => (if t107 = 0 then ((ferruleref23_Bytes.f k l0_0 l0_1).bind fun t120 => (if (strOfNums t104).toList = (strOfNums t120).toList then (if bt111.2.2.2 = 0 then (if bt111.2.2.1 = 0 then ((ferruleref23_Same.f k l0_0 l0_1 bt111.1 bt111.2.1).bind fun t123 => (some t123)) else (some false)) else (some false)) else (some false))) else (some false))) else (if (t104.length : Int) = 0 then (some (t107 == 3)) else (some false)))))) = some r := H
   have A7 := Aside0.mk A70
   clear A70
   replace H := Option.bind_eq_some_iff.mp H
   obtain ⟨t109, A80, H⟩ := H
   replace H : (if (t108 != t109) = true then (some false) else ((ferruleref23_Good.f k l0_0 l0_1).bind fun t110 => (if t110 = true then ((cert_Read.f t104).bind fun bt111 => (if t107 = 0 then ((ferruleref23_Bytes.f k l0_0 l0_1).bind fun t120 => (if (strOfNums t104).toList = (strOfNums t120).toList then (if bt111.2.2.2 = 0 then (if bt111.2.2.1 = 0 then ((ferruleref23_Same.f k l0_0 l0_1 bt111.1 bt111.2.1).bind fun t123 => (some t123)) else (some false)) else (some false)) else (some false))) else (some false))) else (if (t104.length : Int) = 0 then (some (t107 == 3)) else (some false))))) = some r := H
   have A8 := Aside0.mk A80
   clear A80
   by_cases c9 : (t108 != t109) = true
   ·rw [if_pos c9] at H
    have c9b0 : (t108 != t109) = true := c9
    (try (have c9b1 : decide (t108 = t109) = false := by simpa using c9))
    (try (have c9b2 : (t108 == t109) = false := by simpa using c9))
    (try (have c9b3 : ¬ (t108 = t109) := by simpa using c9))
    clear c9
    obtain rfl := Option.some.inj H
    go_enter Try.func7, Try.ntmps7
    try go_wp2_with (first | ((with_reducible refine gate_dst (N := 1) rfl ?_); refine box_event ?hg (N := 1) ?hd (cs := #[.slice A0_0 l0_0.length c0_0, .slice A0_1 l0_1.length c0_1]) (t := 52) ?hr ?_; (case hd => rfl); (case hg => rfl); (case hr => first | (go_simp; done) | (go_simp; rfl)); intro gb101 hg w10 hbox hb; have BK101 := Aside0.mk hbox; have GW101 := Aside0.mk ((by rw [hg]; exact (below_size bB) : w.heap.size ≤ gb101)); have GE101 := Aside0.mk ((by rw [hg]; exact (below_size bB) : w.heap.size ≤ gb101)); replace HB := aB HB hb; clear hb hbox hg) | ((with_reducible refine gate_callee (f := 25) rfl ?_); refine goesL_ (some 8) rfl rfl Try.func25 (by kernel_rfl) rfl #[] rfl bM ?_; (with_reducible refine (ferrulelaw23_awake.calls k  true _ A2.out).mono ?_); rintro e w11 ⟨rfl, hb⟩; refine ⟨_, rfl, ?_⟩; replace BK101 := aK BK101 hb; replace HB := aB HB hb; (try clear hb); (try clear hb2); (try clear hk); (try clear hi); have hcz12_0 : w11.cell? ⟨gb101, 0, none⟩ = some (.slice A0_0 l0_0.length c0_0) := (blk_cell BK101.out 0).trans rfl; have hcz12_1 : w11.cell? ⟨gb101, 1, none⟩ = some (.slice A0_1 l0_1.length c0_1) := (blk_cell BK101.out 1).trans rfl; have hfz12_0 := blk_frozen BK101.out 0; have hfz12_1 := blk_frozen BK101.out 1) | ((with_reducible refine gate_callee (f := 26) rfl ?_); refine goesL_ (some 11) rfl rfl Try.func26 (by kernel_rfl) rfl #[.agg #[.slice A0_0 l0_0.length c0_0, .slice A0_1 l0_1.length c0_1]] rfl bM ?_; (with_reducible refine (ferrulelaw23_few.calls k _ _ l0_0 _ _ l0_1 true _ ?side1 ?side2 ?side3 ?side4 A4.out).mono ?_); (case side1 => exact sW (Kd.C_below HR0_0.out HB.out)); (case side2 => exact HC0_0.out); (case side3 => exact sW (Kd.C_below HR0_1.out HB.out)); (case side4 => exact HC0_1.out); rintro e w13 ⟨rfl, hb⟩; refine ⟨_, rfl, ?_⟩; replace BK101 := aK BK101 hb; replace HB := aB HB hb; (try clear hb); (try clear hb2); (try clear hk); (try clear hi); have hcz14_0 : w13.cell? ⟨gb101, 0, none⟩ = some (.slice A0_0 l0_0.length c0_0) := (blk_cell BK101.out 0).trans rfl; have hcz14_1 : w13.cell? ⟨gb101, 1, none⟩ = some (.slice A0_1 l0_1.length c0_1) := (blk_cell BK101.out 1).trans rfl; have hfz14_0 := blk_frozen BK101.out 0; have hfz14_1 := blk_frozen BK101.out 1) | ((with_reducible refine gate_callee (f := 27) rfl ?_); refine goesL_ (some 15) rfl rfl Try.func27 (by kernel_rfl) rfl #[.agg #[.slice A0_0 l0_0.length c0_0, .slice A0_1 l0_1.length c0_1]] rfl bM ?_; (with_reducible refine (cert_Bytes.calls _ _ l0_0 _ _ l0_1 t104 t107 _ ?side1 ?side2 ?side3 ?side4 A6.out).mono ?_); (case side1 => exact sW (Kd.C_below HR0_0.out HB.out)); (case side2 => exact HC0_0.out); (case side3 => exact sW (Kd.C_below HR0_1.out HB.out)); (case side4 => exact HC0_1.out); rintro e w15 ⟨v105, rfl, ho0, hb⟩; refine ⟨_, rfl, ?_⟩; have HO106 := aL ho0 HB; replace BK101 := aK BK101 hb; replace HB := aB HB hb; (try clear hb); (try clear hb2); (try clear hk); (try clear hi); (try clear ho0)))
    replace HO106 := Aside0.mk (Kd.R_drew HO106.out)
    replace BK101 := Aside0.mk (blk_drew BK101.out)
    replace HB := Aside0.mk (below_drew1 HB.out)
    refine start_ (n := 5) (S := fun w' => w'.cell? ⟨gb101, 0, none⟩ = some (.slice A0_0 l0_0.length c0_0) ∧ w'.cell? ⟨gb101, 1, none⟩ = some (.slice A0_1 l0_1.length c0_1)) (ds := []) #[false, false, false, false, false] (by kernel_rfl) rfl rfl ⟨(blk_cell BK101.out 0).trans rfl, (blk_cell BK101.out 1).trans rfl⟩ (fun hHeld => ?_)
    generalize w15.drew = w16 at HO106 BK101 HB hHeld ⊢
    refine take_ (i := 0) (N := some 18) (v := ?_) (a' := ?_) #[true, false, false, false, false] rfl rfl (by kernel_rfl) (fun _ _ _ h => h) (Or.inl ⟨by rfl, ?_⟩) hHeld ?_ ?_
    rotate_left
    ·rintro w' ⟨s0, s1⟩
     go_simp
     with_reducible rfl
    rotate_left
    ·simp only [Act.put, List.setIfInBounds_toArray, List.set_cons_zero, List.set_cons_succ, i64_w, i32_w]
     rfl
    refine take_ (i := 2) (N := some 20) (v := ?_) (a' := ?_) #[true, false, true, false, false] rfl rfl (by kernel_rfl) (fun _ _ _ h => h) (Or.inl ⟨by rfl, ?_⟩) hHeld ?_ ?_
    rotate_left
    ·rintro w' ⟨s0, s1⟩
     go_simp
     with_reducible rfl
    rotate_left
    ·simp only [Act.put, List.setIfInBounds_toArray, List.set_cons_zero, List.set_cons_succ, i64_w, i32_w]
     rfl
    refine one_ (i := 1) (N := some 19) #[true, true, true, false, false] rfl rfl (by kernel_rfl) (by decide) (fun K hK => ?_)
    refine goes_ Try.func28 (by kernel_rfl) rfl #[.agg #[.slice A0_0 l0_0.length c0_0, .slice A0_1 l0_1.length c0_1]] (by rfl) rfl rfl bM ?_
    with_reducible refine (cert_Good.calls k _ _ l0_0 _ _ l0_1 t108 _ ?side1 ?side2 ?side3 ?side4 A7.out).mono ?_
    (case side1 => exact sW (Kd.C_below HR0_0.out HB.out))
    (case side2 => exact HC0_0.out)
    (case side3 => exact sW (Kd.C_below HR0_1.out HB.out))
    (case side4 => exact HC0_1.out)
    rintro e w17 ⟨rfl, hb⟩
    refine ⟨_, rfl, ?_⟩
    replace HO106 := aR HO106 hb
    replace BK101 := aK BK101 hb
    replace HB := aB HB hb
    (try clear hb)
    (try clear hb2)
    (try clear hk)
    (try clear hi)
    refine hK.out _ _ ⟨(blk_cell BK101.out 0).trans rfl, (blk_cell BK101.out 1).trans rfl⟩ (fun hHeld => ?_)
    clear hK K
    refine norm_ (a' := ?_) ?_ ?_
    rotate_left
    ·show Act.put _ (some 19) _ = _
     simp only [Act.put, List.setIfInBounds_toArray, List.set_cons_zero, List.set_cons_succ, i64_w, i32_w]
     rfl
    refine one_ (i := 3) (N := some 21) #[true, true, true, true, false] rfl rfl (by kernel_rfl) (by decide) (fun K hK => ?_)
    refine goes_ Try.func29 (by kernel_rfl) rfl #[.agg #[.slice A0_0 l0_0.length c0_0, .slice A0_1 l0_1.length c0_1]] (by rfl) rfl rfl bM ?_
    with_reducible refine (ferruleref23_Good.calls k _ _ l0_0 _ _ l0_1 t109 _ ?side1 ?side2 ?side3 ?side4 A8.out).mono ?_
    (case side1 => exact sW (Kd.C_below HR0_0.out HB.out))
    (case side2 => exact HC0_0.out)
    (case side3 => exact sW (Kd.C_below HR0_1.out HB.out))
    (case side4 => exact HC0_1.out)
    rintro e w18 ⟨rfl, hb⟩
    refine ⟨_, rfl, ?_⟩
    replace HO106 := aR HO106 hb
    replace BK101 := aK BK101 hb
    replace HB := aB HB hb
    (try clear hb)
    (try clear hb2)
    (try clear hk)
    (try clear hi)
    refine hK.out _ _ ⟨(blk_cell BK101.out 0).trans rfl, (blk_cell BK101.out 1).trans rfl⟩ (fun hHeld => ?_)
    clear hK K
    refine norm_ (a' := ?_) ?_ ?_
    rotate_left
    ·show Act.put _ (some 21) _ = _
     simp only [Act.put, List.setIfInBounds_toArray, List.set_cons_zero, List.set_cons_succ, i64_w, i32_w]
     rfl
    refine pure_ (i := 4) (N := some 22) (v := ?_) (a' := ?_) #[true, true, true, true, true] rfl rfl (by kernel_rfl) (fun _ _ _ h => h) (Or.inl ⟨by rfl, ?_⟩) ?_ ?_
    rotate_left
    ·intro w'
     go_simp
     with_reducible rfl
    rotate_left
    ·simp only [Act.put, List.setIfInBounds_toArray, List.set_cons_zero, List.set_cons_succ, i64_w, i32_w]
     rfl
    refine done_ (by kernel_rfl) ?_
    try go_wp2
    go_ret
    exact ⟨by first | rfl | (simp [errW_none, errW_some] <;> rfl) | (simp [*, errW_none, errW_some] <;> rfl), bB⟩
   ·rw [if_neg c9] at H
    have c9b0 : (t108 != t109) = false := by simpa using c9
    (try (have c9b1 : decide (t108 = t109) = true := by simpa using c9))
    (try (have c9b2 : (t108 == t109) = true := by simpa using c9))
    clear c9
    replace H := Option.bind_eq_some_iff.mp H
    obtain ⟨t110, A190, H⟩ := H
    replace H : (if t110 = true then ((cert_Read.f t104).bind fun bt111 => (if t107 = 0 then ((ferruleref23_Bytes.f k l0_0 l0_1).bind fun t120 => (if (strOfNums t104).toList = (strOfNums t120).toList then (if bt111.2.2.2 = 0 then (if bt111.2.2.1 = 0 then ((ferruleref23_Same.f k l0_0 l0_1 bt111.1 bt111.2.1).bind fun t123 => (some t123)) else (some false)) else (some false)) else (some false))) else (some false))) else (if (t104.length : Int) = 0 then (some (t107 == 3)) else (some false))) = some r := H
    have A19 := Aside0.mk A190
    clear A190
    by_cases c20 : t110 = true
    ·subst c20
     have H1 : ((cert_Read.f t104).bind fun bt111 => (if t107 = 0 then ((ferruleref23_Bytes.f k l0_0 l0_1).bind fun t120 => (if (strOfNums t104).toList = (strOfNums t120).toList then (if bt111.2.2.2 = 0 then (if bt111.2.2.1 = 0 then ((ferruleref23_Same.f k l0_0 l0_1 bt111.1 bt111.2.1).bind fun t123 => (some t123)) else (some false)) else (some false)) else (some false))) else (some false))) = some r := by rw [if_pos rfl] at H; exact H
     clear H
     have H := H1
     clear H1
     replace H := Option.bind_eq_some_iff.mp H
     obtain ⟨⟨t111, t114, t117, t118⟩, A210, H⟩ := H
     replace H : (if t107 = 0 then ((ferruleref23_Bytes.f k l0_0 l0_1).bind fun t120 => (if (strOfNums t104).toList = (strOfNums t120).toList then (if t118 = 0 then (if t117 = 0 then ((ferruleref23_Same.f k l0_0 l0_1 t111 t114).bind fun t123 => (some t123)) else (some false)) else (some false)) else (some false))) else (some false)) = some r := H
     have A21 := Aside0.mk A210
     clear A210
     by_cases c22 : t107 = 0
     ·rw [if_pos c22] at H
      have c22b0 : (t107 == 0) = true := beq_iff_eq.mpr c22
      have c22b1 : (t107 != 0) = false := bne_eq_false_iff_eq.mpr c22
      clear c22
      replace H := Option.bind_eq_some_iff.mp H
      obtain ⟨t120, A230, H⟩ := H
      replace H : (if (strOfNums t104).toList = (strOfNums t120).toList then (if t118 = 0 then (if t117 = 0 then ((ferruleref23_Same.f k l0_0 l0_1 t111 t114).bind fun t123 => (some t123)) else (some false)) else (some false)) else (some false)) = some r := H
      have A23 := Aside0.mk A230
      clear A230
      by_cases c24 : (strOfNums t104).toList = (strOfNums t120).toList
      ·rw [if_pos c24] at H
       have c24b0 : ((strOfNums t104).toList == (strOfNums t120).toList) = true := beq_iff_eq.mpr c24
       have c24b1 : ((strOfNums t104).toList != (strOfNums t120).toList) = false := bne_eq_false_iff_eq.mpr c24
       clear c24
       by_cases c25 : t118 = 0
       ·rw [if_pos c25] at H
        have c25b0 : (t118 == 0) = true := beq_iff_eq.mpr c25
        have c25b1 : (t118 != 0) = false := bne_eq_false_iff_eq.mpr c25
        clear c25
        by_cases c26 : t117 = 0
        ·rw [if_pos c26] at H
         have c26b0 : (t117 == 0) = true := beq_iff_eq.mpr c26
         have c26b1 : (t117 != 0) = false := bne_eq_false_iff_eq.mpr c26
         clear c26
         replace H := Option.bind_eq_some_iff.mp H
         obtain ⟨t123, A270, H⟩ := H
         replace H : (some t123) = some r := H
         have A27 := Aside0.mk A270
         clear A270
         obtain rfl := Option.some.inj H
         go_enter Try.func7, Try.ntmps7
         try go_wp2_with (first | ((with_reducible refine gate_dst (N := 1) rfl ?_); refine box_event ?hg (N := 1) ?hd (cs := #[.slice A0_0 l0_0.length c0_0, .slice A0_1 l0_1.length c0_1]) (t := 52) ?hr ?_; (case hd => rfl); (case hg => rfl); (case hr => first | (go_simp; done) | (go_simp; rfl)); intro gb101 hg w28 hbox hb; have BK101 := Aside0.mk hbox; have GW101 := Aside0.mk ((by rw [hg]; exact (below_size bB) : w.heap.size ≤ gb101)); have GE101 := Aside0.mk ((by rw [hg]; exact (below_size bB) : w.heap.size ≤ gb101)); replace HB := aB HB hb; clear hb hbox hg) | ((with_reducible refine gate_callee (f := 25) rfl ?_); refine goesL_ (some 8) rfl rfl Try.func25 (by kernel_rfl) rfl #[] rfl bM ?_; (with_reducible refine (ferrulelaw23_awake.calls k  true _ A2.out).mono ?_); rintro e w29 ⟨rfl, hb⟩; refine ⟨_, rfl, ?_⟩; replace BK101 := aK BK101 hb; replace HB := aB HB hb; (try clear hb); (try clear hb2); (try clear hk); (try clear hi); have hcz30_0 : w29.cell? ⟨gb101, 0, none⟩ = some (.slice A0_0 l0_0.length c0_0) := (blk_cell BK101.out 0).trans rfl; have hcz30_1 : w29.cell? ⟨gb101, 1, none⟩ = some (.slice A0_1 l0_1.length c0_1) := (blk_cell BK101.out 1).trans rfl; have hfz30_0 := blk_frozen BK101.out 0; have hfz30_1 := blk_frozen BK101.out 1) | ((with_reducible refine gate_callee (f := 26) rfl ?_); refine goesL_ (some 11) rfl rfl Try.func26 (by kernel_rfl) rfl #[.agg #[.slice A0_0 l0_0.length c0_0, .slice A0_1 l0_1.length c0_1]] rfl bM ?_; (with_reducible refine (ferrulelaw23_few.calls k _ _ l0_0 _ _ l0_1 true _ ?side1 ?side2 ?side3 ?side4 A4.out).mono ?_); (case side1 => exact sW (Kd.C_below HR0_0.out HB.out)); (case side2 => exact HC0_0.out); (case side3 => exact sW (Kd.C_below HR0_1.out HB.out)); (case side4 => exact HC0_1.out); rintro e w31 ⟨rfl, hb⟩; refine ⟨_, rfl, ?_⟩; replace BK101 := aK BK101 hb; replace HB := aB HB hb; (try clear hb); (try clear hb2); (try clear hk); (try clear hi); have hcz32_0 : w31.cell? ⟨gb101, 0, none⟩ = some (.slice A0_0 l0_0.length c0_0) := (blk_cell BK101.out 0).trans rfl; have hcz32_1 : w31.cell? ⟨gb101, 1, none⟩ = some (.slice A0_1 l0_1.length c0_1) := (blk_cell BK101.out 1).trans rfl; have hfz32_0 := blk_frozen BK101.out 0; have hfz32_1 := blk_frozen BK101.out 1) | ((with_reducible refine gate_callee (f := 27) rfl ?_); refine goesL_ (some 15) rfl rfl Try.func27 (by kernel_rfl) rfl #[.agg #[.slice A0_0 l0_0.length c0_0, .slice A0_1 l0_1.length c0_1]] rfl bM ?_; (with_reducible refine (cert_Bytes.calls _ _ l0_0 _ _ l0_1 t104 t107 _ ?side1 ?side2 ?side3 ?side4 A6.out).mono ?_); (case side1 => exact sW (Kd.C_below HR0_0.out HB.out)); (case side2 => exact HC0_0.out); (case side3 => exact sW (Kd.C_below HR0_1.out HB.out)); (case side4 => exact HC0_1.out); rintro e w33 ⟨v105, rfl, ho0, hb⟩; refine ⟨_, rfl, ?_⟩; have HO106 := aL ho0 HB; replace BK101 := aK BK101 hb; replace HB := aB HB hb; (try clear hb); (try clear hb2); (try clear hk); (try clear hi); (try clear ho0)))
         replace HO106 := Aside0.mk (Kd.R_drew HO106.out)
         replace BK101 := Aside0.mk (blk_drew BK101.out)
         replace HB := Aside0.mk (below_drew1 HB.out)
         refine start_ (n := 5) (S := fun w' => w'.cell? ⟨gb101, 0, none⟩ = some (.slice A0_0 l0_0.length c0_0) ∧ w'.cell? ⟨gb101, 1, none⟩ = some (.slice A0_1 l0_1.length c0_1)) (ds := []) #[false, false, false, false, false] (by kernel_rfl) rfl rfl ⟨(blk_cell BK101.out 0).trans rfl, (blk_cell BK101.out 1).trans rfl⟩ (fun hHeld => ?_)
         generalize w33.drew = w34 at HO106 BK101 HB hHeld ⊢
         refine take_ (i := 0) (N := some 18) (v := ?_) (a' := ?_) #[true, false, false, false, false] rfl rfl (by kernel_rfl) (fun _ _ _ h => h) (Or.inl ⟨by rfl, ?_⟩) hHeld ?_ ?_
         rotate_left
         ·rintro w' ⟨s0, s1⟩
          go_simp
          with_reducible rfl
         rotate_left
         ·simp only [Act.put, List.setIfInBounds_toArray, List.set_cons_zero, List.set_cons_succ, i64_w, i32_w]
          rfl
         refine take_ (i := 2) (N := some 20) (v := ?_) (a' := ?_) #[true, false, true, false, false] rfl rfl (by kernel_rfl) (fun _ _ _ h => h) (Or.inl ⟨by rfl, ?_⟩) hHeld ?_ ?_
         rotate_left
         ·rintro w' ⟨s0, s1⟩
          go_simp
          with_reducible rfl
         rotate_left
         ·simp only [Act.put, List.setIfInBounds_toArray, List.set_cons_zero, List.set_cons_succ, i64_w, i32_w]
          rfl
         refine one_ (i := 1) (N := some 19) #[true, true, true, false, false] rfl rfl (by kernel_rfl) (by decide) (fun K hK => ?_)
         refine goes_ Try.func28 (by kernel_rfl) rfl #[.agg #[.slice A0_0 l0_0.length c0_0, .slice A0_1 l0_1.length c0_1]] (by rfl) rfl rfl bM ?_
         with_reducible refine (cert_Good.calls k _ _ l0_0 _ _ l0_1 t108 _ ?side1 ?side2 ?side3 ?side4 A7.out).mono ?_
         (case side1 => exact sW (Kd.C_below HR0_0.out HB.out))
         (case side2 => exact HC0_0.out)
         (case side3 => exact sW (Kd.C_below HR0_1.out HB.out))
         (case side4 => exact HC0_1.out)
         rintro e w35 ⟨rfl, hb⟩
         refine ⟨_, rfl, ?_⟩
         replace HO106 := aR HO106 hb
         replace BK101 := aK BK101 hb
         replace HB := aB HB hb
         (try clear hb)
         (try clear hb2)
         (try clear hk)
         (try clear hi)
         refine hK.out _ _ ⟨(blk_cell BK101.out 0).trans rfl, (blk_cell BK101.out 1).trans rfl⟩ (fun hHeld => ?_)
         clear hK K
         refine norm_ (a' := ?_) ?_ ?_
         rotate_left
         ·show Act.put _ (some 19) _ = _
          simp only [Act.put, List.setIfInBounds_toArray, List.set_cons_zero, List.set_cons_succ, i64_w, i32_w]
          rfl
         refine one_ (i := 3) (N := some 21) #[true, true, true, true, false] rfl rfl (by kernel_rfl) (by decide) (fun K hK => ?_)
         refine goes_ Try.func29 (by kernel_rfl) rfl #[.agg #[.slice A0_0 l0_0.length c0_0, .slice A0_1 l0_1.length c0_1]] (by rfl) rfl rfl bM ?_
         with_reducible refine (ferruleref23_Good.calls k _ _ l0_0 _ _ l0_1 t109 _ ?side1 ?side2 ?side3 ?side4 A8.out).mono ?_
         (case side1 => exact sW (Kd.C_below HR0_0.out HB.out))
         (case side2 => exact HC0_0.out)
         (case side3 => exact sW (Kd.C_below HR0_1.out HB.out))
         (case side4 => exact HC0_1.out)
         rintro e w36 ⟨rfl, hb⟩
         refine ⟨_, rfl, ?_⟩
         replace HO106 := aR HO106 hb
         replace BK101 := aK BK101 hb
         replace HB := aB HB hb
         (try clear hb)
         (try clear hb2)
         (try clear hk)
         (try clear hi)
         refine hK.out _ _ ⟨(blk_cell BK101.out 0).trans rfl, (blk_cell BK101.out 1).trans rfl⟩ (fun hHeld => ?_)
         clear hK K
         refine norm_ (a' := ?_) ?_ ?_
         rotate_left
         ·show Act.put _ (some 21) _ = _
          simp only [Act.put, List.setIfInBounds_toArray, List.set_cons_zero, List.set_cons_succ, i64_w, i32_w]
          rfl
         refine pure_ (i := 4) (N := some 22) (v := ?_) (a' := ?_) #[true, true, true, true, true] rfl rfl (by kernel_rfl) (fun _ _ _ h => h) (Or.inl ⟨by rfl, ?_⟩) ?_ ?_
         rotate_left
         ·intro w'
          go_simp
          with_reducible rfl
         rotate_left
         ·simp only [Act.put, List.setIfInBounds_toArray, List.set_cons_zero, List.set_cons_succ, i64_w, i32_w]
          rfl
         refine done_ (by kernel_rfl) ?_
         have hcz37_0 : w36.cell? ⟨gb101, 0, none⟩ = some (.slice A0_0 l0_0.length c0_0) := (blk_cell BK101.out 0).trans rfl
         have hcz37_1 : w36.cell? ⟨gb101, 1, none⟩ = some (.slice A0_1 l0_1.length c0_1) := (blk_cell BK101.out 1).trans rfl
         have hfz37_0 := blk_frozen BK101.out 0
         have hfz37_1 := blk_frozen BK101.out 1
         try go_wp2_with (first | ((with_reducible refine gate_callee (f := 29) rfl ?_); refine goesL_ (some 24) rfl rfl Try.func29 (by kernel_rfl) rfl #[.agg #[.slice A0_0 l0_0.length c0_0, .slice A0_1 l0_1.length c0_1]] rfl bM ?_; (with_reducible refine (ferruleref23_Good.calls k _ _ l0_0 _ _ l0_1 true _ ?side1 ?side2 ?side3 ?side4 A19.out).mono ?_); (case side1 => exact sW (Kd.C_below HR0_0.out HB.out)); (case side2 => exact HC0_0.out); (case side3 => exact sW (Kd.C_below HR0_1.out HB.out)); (case side4 => exact HC0_1.out); rintro e w38 ⟨rfl, hb⟩; refine ⟨_, rfl, ?_⟩; replace HO106 := aR HO106 hb; replace BK101 := aK BK101 hb; replace HB := aB HB hb; (try clear hb); (try clear hb2); (try clear hk); (try clear hi); obtain ⟨Ao39, co39, eo39⟩ := Kd.R_slice HO106.out; subst eo39) | ((with_reducible refine gate_callee (f := 30) rfl ?_); refine goesL_ (some 35) rfl rfl Try.func30 (by kernel_rfl) rfl #[.slice Ao39 t104.length co39] rfl bM ?_; (with_reducible refine (cert_Read.calls _ _ t104 t111 t114 t117 t118 _ ?side1 ?side2 A21.out).mono ?_); (case side1 => exact sW (Kd.R_reads' HO106.out).2.2); (case side2 => exact (Kd.R_reads' HO106.out).2.1); rintro e w40 ⟨v112, v115, rfl, ho0, ho1, hb⟩; refine ⟨_, rfl, ?_⟩; replace HO106 := aR HO106 hb; have HO113 := aL ho0 HB; have HO116 := aL ho1 HB; replace BK101 := aK BK101 hb; replace HB := aB HB hb; (try clear hb); (try clear hb2); (try clear hk); (try clear hi); (try clear ho0); (try clear ho1)) | ((with_reducible refine gate_dst (N := 5) rfl ?_); refine box_event ?hg (N := 5) ?hd (cs := #[.slice none 0 0, .slice none 0 0]) (t := 52) ?hr ?_; (case hd => rfl); (case hg => rfl); (case hr => first | (go_simp; done) | (go_simp; rfl)); intro gb119 hg w41 hbox hb; replace HO106 := aR HO106 hb; replace HO113 := aR HO113 hb; replace HO116 := aR HO116 hb; have BK119 := Aside0.mk hbox; have GW119 := Aside0.mk ((by rw [hg]; exact (below_size bB) : w.heap.size ≤ gb119)); have GE119 := Aside0.mk ((by rw [hg]; exact (below_size bB) : w.heap.size ≤ gb119)); replace HB := aB HB hb; have NB101_119 := Aside0.mk ((by rw [hg]; exact Nat.ne_of_lt (blk_lt (g := gb101) (o := .cells #[.slice A0_0 l0_0.length c0_0, .slice A0_1 l0_1.length c0_1] 52 (0, 0)) (aKw BK101)) : gb101 ≠ gb119)); have NB119_101 := Aside0.mk ((by rw [hg]; exact Nat.ne_of_gt (blk_lt (g := gb101) (o := .cells #[.slice A0_0 l0_0.length c0_0, .slice A0_1 l0_1.length c0_1] 52 (0, 0)) (aKw BK101)) : gb119 ≠ gb101)); replace BK101 := aK BK101 hb; clear hb hbox hg; obtain ⟨Ao42, co42, eo42⟩ := Kd.R_slice HO113.out; subst eo42; have hnb43 := NB119_101.out; have hnc43 := NB101_119.out; have hcz44_0 : w41.cell? ⟨gb119, 0, none⟩ = some (.slice none 0 0) := (blk_cell BK119.out 0).trans rfl; have hcz44_1 : w41.cell? ⟨gb119, 1, none⟩ = some (.slice none 0 0) := (blk_cell BK119.out 1).trans rfl; have hfz44_0 := blk_frozen BK119.out 0; have hfz44_1 := blk_frozen BK119.out 1; obtain ⟨Ao45, co45, eo45⟩ := Kd.R_slice HO116.out; subst eo45))
         generalize hW_ : ((w41.setCell ⟨gb119, 0, none⟩ (.slice Ao42 t111.length co42)).setCell ⟨gb119, 1, none⟩ (.slice Ao45 t114.length co45)) = w46
         have n0_ : Aside0 (Kd.R (Kd.int .u8) 5 w46 w.heap.size (fun _ => True) (.slice Ao39 t104.length co39) t104) := ⟨by subst hW_; (with_reducible repeat (first | apply Kd.R_alloc | apply Kd.R_drewN | apply Kd.R_drew)); exact Kd.R_mono (aG HO106 BK119) (fun _ hk => trivial)⟩
         have n1_ : Aside0 (Kd.R (Kd.int .i64) 3 w46 w.heap.size (fun _ => True) (.slice Ao42 t111.length co42) t111) := ⟨by subst hW_; (with_reducible repeat (first | apply Kd.R_alloc | apply Kd.R_drewN | apply Kd.R_drew)); exact Kd.R_mono (aG HO113 BK119) (fun _ hk => trivial)⟩
         have n2_ : Aside0 (Kd.R k95 95 w46 w.heap.size (fun k_ => some k_ ≠ ob Ao42 t111 co42) (.slice Ao45 t114.length co45) t114) := ⟨by subst hW_; (with_reducible repeat (first | apply Kd.R_alloc | apply Kd.R_drewN | apply Kd.R_drew)); exact Kd.R_mono (aG HO116 BK119) (fun _ hk => hk.1)⟩
         have n3_ : Aside0 (w46.heap[gb101]? = some (.cells #[.slice A0_0 l0_0.length c0_0, .slice A0_1 l0_1.length c0_1] 52 (0, 0))) := ⟨by subst hW_; (with_reducible repeat (first | refine blk_drewN ?_ _ | refine blk_drew ?_ | refine blk_alloc ?_ _)); refine blk_far ?_ NB101_119.out _; (with_reducible repeat (first | refine blk_drewN ?_ _ | refine blk_drew ?_ | refine blk_alloc ?_ _)); refine blk_far ?_ NB101_119.out _; (with_reducible repeat (first | refine blk_drewN ?_ _ | refine blk_drew ?_ | refine blk_alloc ?_ _)); exact BK101.out⟩
         have n4_ : Aside0 (w46.heap[gb119]? = some (.cells #[.slice Ao42 t111.length co42, .slice Ao45 t114.length co45] 52 (0, 0))) := ⟨by subst hW_; (with_reducible repeat (first | refine blk_drewN ?_ _ | refine blk_drew ?_ | refine blk_alloc ?_ _)); refine blk_put (cs := #[.slice Ao42 t111.length co42, .slice none 0 0]) ?_ 1 _ rfl; (with_reducible repeat (first | refine blk_drewN ?_ _ | refine blk_drew ?_ | refine blk_alloc ?_ _)); refine blk_put (cs := #[.slice none 0 0, .slice none 0 0]) ?_ 0 _ rfl; (with_reducible repeat (first | refine blk_drewN ?_ _ | refine blk_drew ?_ | refine blk_alloc ?_ _)); exact BK119.out⟩
         have n5_ : Aside0 (Below w.heap.size w w46) := ⟨by subst hW_; exact bB⟩
         (try clear HO106)
         (try clear HO113)
         (try clear HO116)
         (try clear BK101)
         (try clear BK119)
         (try clear HB)
         clear hW_
         have HO106 := n0_
         have HO113 := n1_
         have HO116 := n2_
         have BK101 := n3_
         have BK119 := n4_
         have HB := n5_
         clear n0_ n1_ n2_ n3_ n4_ n5_
         replace HO106 := Aside0.mk (Kd.R_drew HO106.out)
         replace HO113 := Aside0.mk (Kd.R_drew HO113.out)
         replace HO116 := Aside0.mk (Kd.R_drew HO116.out)
         replace BK101 := Aside0.mk (blk_drew BK101.out)
         replace BK119 := Aside0.mk (blk_drew BK119.out)
         replace HB := Aside0.mk (below_drew1 HB.out)
         have hcv48 := own_string (P := Try.prog) Try.underlying22 Try.underlying5 Try.underlying9 (Kd.own_of_R HO106.out)
         refine start_ (n := 24) (S := fun w' => w'.cell? ⟨gb101, 0, none⟩ = some (.slice A0_0 l0_0.length c0_0) ∧ w'.cell? ⟨gb101, 1, none⟩ = some (.slice A0_1 l0_1.length c0_1) ∧ w'.cell? ⟨gb119, 0, none⟩ = some (.slice Ao42 t111.length co42) ∧ w'.cell? ⟨gb119, 1, none⟩ = some (.slice Ao45 t114.length co45) ∧ Sem.run Try.prog (Go.convert 22 9 (Value.slice Ao39 t104.length co39)) w' = Result.ok (.string (strOfNums t104)) w') (ds := []) #[false, false, false, false, false, false, false, false, false, false, false, false, false, false, false, false, false, false, false, false, false, false, false, false] (by kernel_rfl) rfl rfl ⟨(blk_cell BK101.out 0).trans rfl, (blk_cell BK101.out 1).trans rfl, (blk_cell BK119.out 0).trans rfl, (blk_cell BK119.out 1).trans rfl, own_string (P := Try.prog) Try.underlying22 Try.underlying5 Try.underlying9 (Kd.own_of_R HO106.out)⟩ (fun hHeld => ?_); refine with_tabW ferrulelaw23_CertTexts.tab11 ferrulelaw23_CertTexts.bits11 (fun HT_ HW_ => ?_)
         generalize w46.drew = w47 at HO106 HO113 HO116 BK101 BK119 HB hHeld ⊢
         refine pV 0 39 rfl rfl ?_
         refine pV 1 40 rfl rfl ?_
         refine pV 2 41 rfl rfl ?_
         refine pV 3 42 rfl rfl ?_
         refine tV (hy := by refine Or.inl ⟨by rfl, ?_⟩; rintro w_ ⟨_, _, _, _, hs_⟩; go_simp; with_reducible rfl) 4 43 rfl rfl ?_
         refine tV 5 44 rfl rfl ?_
         refine one_ (i := 6) (N := some 45) #[true, true, true, true, true, true, true, false, false, false, false, false, false, false, false, false, false, false, false, false, false, false, false, false] rfl rfl (one_of HT_.out (by kernel_rfl)) (by decide) (fun K hK => ?_)
         refine goes_ Try.func31 (by kernel_rfl) rfl #[.agg #[.slice A0_0 l0_0.length c0_0, .slice A0_1 l0_1.length c0_1]] (by rfl) rfl rfl bM ?_
         with_reducible refine (ferruleref23_Bytes.calls k _ _ l0_0 _ _ l0_1 t120 _ ?side1 ?side2 ?side3 ?side4 A23.out).mono ?_
         (case side1 => exact sW (Kd.C_below HR0_0.out HB.out))
         (case side2 => exact HC0_0.out)
         (case side3 => exact sW (Kd.C_below HR0_1.out HB.out))
         (case side4 => exact HC0_1.out)
         rintro e w49 ⟨v121, rfl, ho0, hb⟩
         refine ⟨_, rfl, ?_⟩
         replace HO113 := aR HO113 hb
         replace HO116 := aR HO116 hb
         have HO122 := aN ho0 HO106 HB
         replace HO106 := aE HO106 ho0 hb
         replace BK101 := aK BK101 hb
         replace BK119 := aK BK119 hb
         replace HB := aB HB hb
         (try clear hb)
         (try clear hb2)
         (try clear hk)
         (try clear hi)
         (try clear ho0)
         refine hK.out _ _ ⟨(blk_cell BK101.out 0).trans rfl, (blk_cell BK101.out 1).trans rfl, (blk_cell BK119.out 0).trans rfl, (blk_cell BK119.out 1).trans rfl, own_string (P := Try.prog) Try.underlying22 Try.underlying5 Try.underlying9 (Kd.own_of_R HO106.out)⟩ (fun hHeld => ?_)
         clear hK K
         refine norm_ (a' := ?_) ?_ ?_
         rotate_left
         ·show Act.put _ (some 45) _ = _
          simp only [Act.put, List.setIfInBounds_toArray, List.set_cons_zero, List.set_cons_succ, i64_w, i32_w]
          rfl
         refine one_ (i := 7) (N := some 46) #[true, true, true, true, true, true, true, true, false, false, false, false, false, false, false, false, false, false, false, false, false, false, false, false] rfl rfl (one_of HT_.out (by kernel_rfl)) (by decide) (fun K hK => ?_)
         have hcv50 := own_string (P := Try.prog) Try.underlying22 Try.underlying5 Try.underlying9 (Kd.own_of_R HO122.out)
         refine value_ (w1 := ?_) (v := ?_) (by rfl) rfl ?_ ?_
         rotate_left 2
         ·go_simp
          constructor
          ·rfl
          ·rfl
         clear hcv50
         refine hK.out _ _ ⟨(blk_cell BK101.out 0).trans rfl, (blk_cell BK101.out 1).trans rfl, (blk_cell BK119.out 0).trans rfl, (blk_cell BK119.out 1).trans rfl, own_string (P := Try.prog) Try.underlying22 Try.underlying5 Try.underlying9 (Kd.own_of_R HO106.out)⟩ (fun hHeld => ?_)
         clear hK K
         refine norm_ (a' := ?_) ?_ ?_
         rotate_left
         ·show Act.put _ (some 46) _ = _
          simp only [Act.put, List.setIfInBounds_toArray, List.set_cons_zero, List.set_cons_succ, i64_w, i32_w]
          rfl
         refine pV 8 47 rfl rfl ?_
         refine pV 9 48 rfl rfl ?_
         refine pV 10 49 rfl rfl ?_
         refine pV 11 50 rfl rfl ?_
         refine pV 12 51 rfl rfl ?_
         refine pV 13 52 rfl rfl ?_
         refine pV 14 53 rfl rfl ?_
         refine pV 15 54 rfl rfl ?_
         refine pV 16 55 rfl rfl ?_
         refine pV 17 56 rfl rfl ?_
         refine pV 18 57 rfl rfl ?_
         refine tV 19 58 rfl rfl ?_
         refine tV 20 59 rfl rfl ?_
         refine one_ (i := 21) (N := some 60) #[true, true, true, true, true, true, true, true, true, true, true, true, true, true, true, true, true, true, true, true, true, true, false, false] rfl rfl (one_of HT_.out (by kernel_rfl)) (by decide) (fun K hK => ?_)
         refine goes_ Try.func32 (by kernel_rfl) rfl #[.agg #[.slice A0_0 l0_0.length c0_0, .slice A0_1 l0_1.length c0_1], .agg #[.slice Ao42 t111.length co42, .slice Ao45 t114.length co45]] (by rfl) rfl rfl bM ?_
         with_reducible refine (ferruleref23_Same.calls k _ _ l0_0 _ _ l0_1 _ _ t111 _ _ t114 t123 _ ?side1 ?side2 ?side3 ?side4 ?side5 ?side6 ?side7 ?side8 A27.out).mono ?_
         (case side1 => exact sW (Kd.C_below HR0_0.out HB.out))
         (case side2 => exact HC0_0.out)
         (case side3 => exact sW (Kd.C_below HR0_1.out HB.out))
         (case side4 => exact HC0_1.out)
         (case side5 => exact sW (Kd.R_reads' HO113.out).2.2)
         (case side6 => exact (Kd.R_reads' HO113.out).2.1)
         (case side7 => exact sW (Kd.R_reads' HO116.out).2.2)
         (case side8 => exact (Kd.R_reads' HO116.out).2.1)
         rintro e w52 ⟨rfl, hb⟩
         refine ⟨_, rfl, ?_⟩
         replace HO106 := aR HO106 hb
         replace HO113 := aR HO113 hb
         replace HO116 := aR HO116 hb
         replace HO122 := aR HO122 hb
         replace BK101 := aK BK101 hb
         replace BK119 := aK BK119 hb
         replace HB := aB HB hb
         (try clear hb)
         (try clear hb2)
         (try clear hk)
         (try clear hi)
         refine hK.out _ _ ⟨(blk_cell BK101.out 0).trans rfl, (blk_cell BK101.out 1).trans rfl, (blk_cell BK119.out 0).trans rfl, (blk_cell BK119.out 1).trans rfl, own_string (P := Try.prog) Try.underlying22 Try.underlying5 Try.underlying9 (Kd.own_of_R HO106.out)⟩ (fun hHeld => ?_)
         clear hK K
         refine norm_ (a' := ?_) ?_ ?_
         rotate_left
         ·show Act.put _ (some 60) _ = _
          simp only [Act.put, List.setIfInBounds_toArray, List.set_cons_zero, List.set_cons_succ, i64_w, i32_w]
          rfl
         refine pV 22 61 rfl rfl ?_
         refine pV 23 2 rfl rfl ?_
         refine done_ (done_of HT_.out (by kernel_rfl)) ?_
         try go_wp2
         go_ret
         exact ⟨by first | rfl | (simp [errW_none, errW_some] <;> rfl) | (simp [*, errW_none, errW_some] <;> rfl), bB⟩
        ·rw [if_neg c26] at H
         have c26b0 : (t117 == 0) = false := beq_eq_false_iff_ne.mpr c26
         have c26b1 : (t117 != 0) = true := bne_iff_ne.mpr c26
         obtain rfl := Option.some.inj H
         go_enter Try.func7, Try.ntmps7
         try go_wp2_with (first | ((with_reducible refine gate_dst (N := 1) rfl ?_); refine box_event ?hg (N := 1) ?hd (cs := #[.slice A0_0 l0_0.length c0_0, .slice A0_1 l0_1.length c0_1]) (t := 52) ?hr ?_; (case hd => rfl); (case hg => rfl); (case hr => first | (go_simp; done) | (go_simp; rfl)); intro gb101 hg w53 hbox hb; have BK101 := Aside0.mk hbox; have GW101 := Aside0.mk ((by rw [hg]; exact (below_size bB) : w.heap.size ≤ gb101)); have GE101 := Aside0.mk ((by rw [hg]; exact (below_size bB) : w.heap.size ≤ gb101)); replace HB := aB HB hb; clear hb hbox hg) | ((with_reducible refine gate_callee (f := 25) rfl ?_); refine goesL_ (some 8) rfl rfl Try.func25 (by kernel_rfl) rfl #[] rfl bM ?_; (with_reducible refine (ferrulelaw23_awake.calls k  true _ A2.out).mono ?_); rintro e w54 ⟨rfl, hb⟩; refine ⟨_, rfl, ?_⟩; replace BK101 := aK BK101 hb; replace HB := aB HB hb; (try clear hb); (try clear hb2); (try clear hk); (try clear hi); have hcz55_0 : w54.cell? ⟨gb101, 0, none⟩ = some (.slice A0_0 l0_0.length c0_0) := (blk_cell BK101.out 0).trans rfl; have hcz55_1 : w54.cell? ⟨gb101, 1, none⟩ = some (.slice A0_1 l0_1.length c0_1) := (blk_cell BK101.out 1).trans rfl; have hfz55_0 := blk_frozen BK101.out 0; have hfz55_1 := blk_frozen BK101.out 1) | ((with_reducible refine gate_callee (f := 26) rfl ?_); refine goesL_ (some 11) rfl rfl Try.func26 (by kernel_rfl) rfl #[.agg #[.slice A0_0 l0_0.length c0_0, .slice A0_1 l0_1.length c0_1]] rfl bM ?_; (with_reducible refine (ferrulelaw23_few.calls k _ _ l0_0 _ _ l0_1 true _ ?side1 ?side2 ?side3 ?side4 A4.out).mono ?_); (case side1 => exact sW (Kd.C_below HR0_0.out HB.out)); (case side2 => exact HC0_0.out); (case side3 => exact sW (Kd.C_below HR0_1.out HB.out)); (case side4 => exact HC0_1.out); rintro e w56 ⟨rfl, hb⟩; refine ⟨_, rfl, ?_⟩; replace BK101 := aK BK101 hb; replace HB := aB HB hb; (try clear hb); (try clear hb2); (try clear hk); (try clear hi); have hcz57_0 : w56.cell? ⟨gb101, 0, none⟩ = some (.slice A0_0 l0_0.length c0_0) := (blk_cell BK101.out 0).trans rfl; have hcz57_1 : w56.cell? ⟨gb101, 1, none⟩ = some (.slice A0_1 l0_1.length c0_1) := (blk_cell BK101.out 1).trans rfl; have hfz57_0 := blk_frozen BK101.out 0; have hfz57_1 := blk_frozen BK101.out 1) | ((with_reducible refine gate_callee (f := 27) rfl ?_); refine goesL_ (some 15) rfl rfl Try.func27 (by kernel_rfl) rfl #[.agg #[.slice A0_0 l0_0.length c0_0, .slice A0_1 l0_1.length c0_1]] rfl bM ?_; (with_reducible refine (cert_Bytes.calls _ _ l0_0 _ _ l0_1 t104 t107 _ ?side1 ?side2 ?side3 ?side4 A6.out).mono ?_); (case side1 => exact sW (Kd.C_below HR0_0.out HB.out)); (case side2 => exact HC0_0.out); (case side3 => exact sW (Kd.C_below HR0_1.out HB.out)); (case side4 => exact HC0_1.out); rintro e w58 ⟨v105, rfl, ho0, hb⟩; refine ⟨_, rfl, ?_⟩; have HO106 := aL ho0 HB; replace BK101 := aK BK101 hb; replace HB := aB HB hb; (try clear hb); (try clear hb2); (try clear hk); (try clear hi); (try clear ho0)))
         replace HO106 := Aside0.mk (Kd.R_drew HO106.out)
         replace BK101 := Aside0.mk (blk_drew BK101.out)
         replace HB := Aside0.mk (below_drew1 HB.out)
         refine start_ (n := 5) (S := fun w' => w'.cell? ⟨gb101, 0, none⟩ = some (.slice A0_0 l0_0.length c0_0) ∧ w'.cell? ⟨gb101, 1, none⟩ = some (.slice A0_1 l0_1.length c0_1)) (ds := []) #[false, false, false, false, false] (by kernel_rfl) rfl rfl ⟨(blk_cell BK101.out 0).trans rfl, (blk_cell BK101.out 1).trans rfl⟩ (fun hHeld => ?_)
         generalize w58.drew = w59 at HO106 BK101 HB hHeld ⊢
         refine take_ (i := 0) (N := some 18) (v := ?_) (a' := ?_) #[true, false, false, false, false] rfl rfl (by kernel_rfl) (fun _ _ _ h => h) (Or.inl ⟨by rfl, ?_⟩) hHeld ?_ ?_
         rotate_left
         ·rintro w' ⟨s0, s1⟩
          go_simp
          with_reducible rfl
         rotate_left
         ·simp only [Act.put, List.setIfInBounds_toArray, List.set_cons_zero, List.set_cons_succ, i64_w, i32_w]
          rfl
         refine take_ (i := 2) (N := some 20) (v := ?_) (a' := ?_) #[true, false, true, false, false] rfl rfl (by kernel_rfl) (fun _ _ _ h => h) (Or.inl ⟨by rfl, ?_⟩) hHeld ?_ ?_
         rotate_left
         ·rintro w' ⟨s0, s1⟩
          go_simp
          with_reducible rfl
         rotate_left
         ·simp only [Act.put, List.setIfInBounds_toArray, List.set_cons_zero, List.set_cons_succ, i64_w, i32_w]
          rfl
         refine one_ (i := 1) (N := some 19) #[true, true, true, false, false] rfl rfl (by kernel_rfl) (by decide) (fun K hK => ?_)
         refine goes_ Try.func28 (by kernel_rfl) rfl #[.agg #[.slice A0_0 l0_0.length c0_0, .slice A0_1 l0_1.length c0_1]] (by rfl) rfl rfl bM ?_
         with_reducible refine (cert_Good.calls k _ _ l0_0 _ _ l0_1 t108 _ ?side1 ?side2 ?side3 ?side4 A7.out).mono ?_
         (case side1 => exact sW (Kd.C_below HR0_0.out HB.out))
         (case side2 => exact HC0_0.out)
         (case side3 => exact sW (Kd.C_below HR0_1.out HB.out))
         (case side4 => exact HC0_1.out)
         rintro e w60 ⟨rfl, hb⟩
         refine ⟨_, rfl, ?_⟩
         replace HO106 := aR HO106 hb
         replace BK101 := aK BK101 hb
         replace HB := aB HB hb
         (try clear hb)
         (try clear hb2)
         (try clear hk)
         (try clear hi)
         refine hK.out _ _ ⟨(blk_cell BK101.out 0).trans rfl, (blk_cell BK101.out 1).trans rfl⟩ (fun hHeld => ?_)
         clear hK K
         refine norm_ (a' := ?_) ?_ ?_
         rotate_left
         ·show Act.put _ (some 19) _ = _
          simp only [Act.put, List.setIfInBounds_toArray, List.set_cons_zero, List.set_cons_succ, i64_w, i32_w]
          rfl
         refine one_ (i := 3) (N := some 21) #[true, true, true, true, false] rfl rfl (by kernel_rfl) (by decide) (fun K hK => ?_)
         refine goes_ Try.func29 (by kernel_rfl) rfl #[.agg #[.slice A0_0 l0_0.length c0_0, .slice A0_1 l0_1.length c0_1]] (by rfl) rfl rfl bM ?_
         with_reducible refine (ferruleref23_Good.calls k _ _ l0_0 _ _ l0_1 t109 _ ?side1 ?side2 ?side3 ?side4 A8.out).mono ?_
         (case side1 => exact sW (Kd.C_below HR0_0.out HB.out))
         (case side2 => exact HC0_0.out)
         (case side3 => exact sW (Kd.C_below HR0_1.out HB.out))
         (case side4 => exact HC0_1.out)
         rintro e w61 ⟨rfl, hb⟩
         refine ⟨_, rfl, ?_⟩
         replace HO106 := aR HO106 hb
         replace BK101 := aK BK101 hb
         replace HB := aB HB hb
         (try clear hb)
         (try clear hb2)
         (try clear hk)
         (try clear hi)
         refine hK.out _ _ ⟨(blk_cell BK101.out 0).trans rfl, (blk_cell BK101.out 1).trans rfl⟩ (fun hHeld => ?_)
         clear hK K
         refine norm_ (a' := ?_) ?_ ?_
         rotate_left
         ·show Act.put _ (some 21) _ = _
          simp only [Act.put, List.setIfInBounds_toArray, List.set_cons_zero, List.set_cons_succ, i64_w, i32_w]
          rfl
         refine pure_ (i := 4) (N := some 22) (v := ?_) (a' := ?_) #[true, true, true, true, true] rfl rfl (by kernel_rfl) (fun _ _ _ h => h) (Or.inl ⟨by rfl, ?_⟩) ?_ ?_
         rotate_left
         ·intro w'
          go_simp
          with_reducible rfl
         rotate_left
         ·simp only [Act.put, List.setIfInBounds_toArray, List.set_cons_zero, List.set_cons_succ, i64_w, i32_w]
          rfl
         refine done_ (by kernel_rfl) ?_
         have hcz62_0 : w61.cell? ⟨gb101, 0, none⟩ = some (.slice A0_0 l0_0.length c0_0) := (blk_cell BK101.out 0).trans rfl
         have hcz62_1 : w61.cell? ⟨gb101, 1, none⟩ = some (.slice A0_1 l0_1.length c0_1) := (blk_cell BK101.out 1).trans rfl
         have hfz62_0 := blk_frozen BK101.out 0
         have hfz62_1 := blk_frozen BK101.out 1
         try go_wp2_with (first | ((with_reducible refine gate_callee (f := 29) rfl ?_); refine goesL_ (some 24) rfl rfl Try.func29 (by kernel_rfl) rfl #[.agg #[.slice A0_0 l0_0.length c0_0, .slice A0_1 l0_1.length c0_1]] rfl bM ?_; (with_reducible refine (ferruleref23_Good.calls k _ _ l0_0 _ _ l0_1 true _ ?side1 ?side2 ?side3 ?side4 A19.out).mono ?_); (case side1 => exact sW (Kd.C_below HR0_0.out HB.out)); (case side2 => exact HC0_0.out); (case side3 => exact sW (Kd.C_below HR0_1.out HB.out)); (case side4 => exact HC0_1.out); rintro e w63 ⟨rfl, hb⟩; refine ⟨_, rfl, ?_⟩; replace HO106 := aR HO106 hb; replace BK101 := aK BK101 hb; replace HB := aB HB hb; (try clear hb); (try clear hb2); (try clear hk); (try clear hi); obtain ⟨Ao64, co64, eo64⟩ := Kd.R_slice HO106.out; subst eo64) | ((with_reducible refine gate_callee (f := 30) rfl ?_); refine goesL_ (some 35) rfl rfl Try.func30 (by kernel_rfl) rfl #[.slice Ao64 t104.length co64] rfl bM ?_; (with_reducible refine (cert_Read.calls _ _ t104 t111 t114 t117 t118 _ ?side1 ?side2 A21.out).mono ?_); (case side1 => exact sW (Kd.R_reads' HO106.out).2.2); (case side2 => exact (Kd.R_reads' HO106.out).2.1); rintro e w65 ⟨v112, v115, rfl, ho0, ho1, hb⟩; refine ⟨_, rfl, ?_⟩; replace HO106 := aR HO106 hb; have HO113 := aL ho0 HB; have HO116 := aL ho1 HB; replace BK101 := aK BK101 hb; replace HB := aB HB hb; (try clear hb); (try clear hb2); (try clear hk); (try clear hi); (try clear ho0); (try clear ho1)) | ((with_reducible refine gate_dst (N := 5) rfl ?_); refine box_event ?hg (N := 5) ?hd (cs := #[.slice none 0 0, .slice none 0 0]) (t := 52) ?hr ?_; (case hd => rfl); (case hg => rfl); (case hr => first | (go_simp; done) | (go_simp; rfl)); intro gb119 hg w66 hbox hb; replace HO106 := aR HO106 hb; replace HO113 := aR HO113 hb; replace HO116 := aR HO116 hb; have BK119 := Aside0.mk hbox; have GW119 := Aside0.mk ((by rw [hg]; exact (below_size bB) : w.heap.size ≤ gb119)); have GE119 := Aside0.mk ((by rw [hg]; exact (below_size bB) : w.heap.size ≤ gb119)); replace HB := aB HB hb; have NB101_119 := Aside0.mk ((by rw [hg]; exact Nat.ne_of_lt (blk_lt (g := gb101) (o := .cells #[.slice A0_0 l0_0.length c0_0, .slice A0_1 l0_1.length c0_1] 52 (0, 0)) (aKw BK101)) : gb101 ≠ gb119)); have NB119_101 := Aside0.mk ((by rw [hg]; exact Nat.ne_of_gt (blk_lt (g := gb101) (o := .cells #[.slice A0_0 l0_0.length c0_0, .slice A0_1 l0_1.length c0_1] 52 (0, 0)) (aKw BK101)) : gb119 ≠ gb101)); replace BK101 := aK BK101 hb; clear hb hbox hg; obtain ⟨Ao67, co67, eo67⟩ := Kd.R_slice HO113.out; subst eo67; have hnb68 := NB119_101.out; have hnc68 := NB101_119.out; have hcz69_0 : w66.cell? ⟨gb119, 0, none⟩ = some (.slice none 0 0) := (blk_cell BK119.out 0).trans rfl; have hcz69_1 : w66.cell? ⟨gb119, 1, none⟩ = some (.slice none 0 0) := (blk_cell BK119.out 1).trans rfl; have hfz69_0 := blk_frozen BK119.out 0; have hfz69_1 := blk_frozen BK119.out 1; obtain ⟨Ao70, co70, eo70⟩ := Kd.R_slice HO116.out; subst eo70))
         generalize hW_ : ((w66.setCell ⟨gb119, 0, none⟩ (.slice Ao67 t111.length co67)).setCell ⟨gb119, 1, none⟩ (.slice Ao70 t114.length co70)) = w71
         have n0_ : Aside0 (Kd.R (Kd.int .u8) 5 w71 w.heap.size (fun _ => True) (.slice Ao64 t104.length co64) t104) := ⟨by subst hW_; (with_reducible repeat (first | apply Kd.R_alloc | apply Kd.R_drewN | apply Kd.R_drew)); exact Kd.R_mono (aG HO106 BK119) (fun _ hk => trivial)⟩
         have n1_ : Aside0 (Kd.R (Kd.int .i64) 3 w71 w.heap.size (fun _ => True) (.slice Ao67 t111.length co67) t111) := ⟨by subst hW_; (with_reducible repeat (first | apply Kd.R_alloc | apply Kd.R_drewN | apply Kd.R_drew)); exact Kd.R_mono (aG HO113 BK119) (fun _ hk => trivial)⟩
         have n2_ : Aside0 (Kd.R k95 95 w71 w.heap.size (fun k_ => some k_ ≠ ob Ao67 t111 co67) (.slice Ao70 t114.length co70) t114) := ⟨by subst hW_; (with_reducible repeat (first | apply Kd.R_alloc | apply Kd.R_drewN | apply Kd.R_drew)); exact Kd.R_mono (aG HO116 BK119) (fun _ hk => hk.1)⟩
         have n3_ : Aside0 (w71.heap[gb101]? = some (.cells #[.slice A0_0 l0_0.length c0_0, .slice A0_1 l0_1.length c0_1] 52 (0, 0))) := ⟨by subst hW_; (with_reducible repeat (first | refine blk_drewN ?_ _ | refine blk_drew ?_ | refine blk_alloc ?_ _)); refine blk_far ?_ NB101_119.out _; (with_reducible repeat (first | refine blk_drewN ?_ _ | refine blk_drew ?_ | refine blk_alloc ?_ _)); refine blk_far ?_ NB101_119.out _; (with_reducible repeat (first | refine blk_drewN ?_ _ | refine blk_drew ?_ | refine blk_alloc ?_ _)); exact BK101.out⟩
         have n4_ : Aside0 (w71.heap[gb119]? = some (.cells #[.slice Ao67 t111.length co67, .slice Ao70 t114.length co70] 52 (0, 0))) := ⟨by subst hW_; (with_reducible repeat (first | refine blk_drewN ?_ _ | refine blk_drew ?_ | refine blk_alloc ?_ _)); refine blk_put (cs := #[.slice Ao67 t111.length co67, .slice none 0 0]) ?_ 1 _ rfl; (with_reducible repeat (first | refine blk_drewN ?_ _ | refine blk_drew ?_ | refine blk_alloc ?_ _)); refine blk_put (cs := #[.slice none 0 0, .slice none 0 0]) ?_ 0 _ rfl; (with_reducible repeat (first | refine blk_drewN ?_ _ | refine blk_drew ?_ | refine blk_alloc ?_ _)); exact BK119.out⟩
         have n5_ : Aside0 (Below w.heap.size w w71) := ⟨by subst hW_; exact bB⟩
         (try clear HO106)
         (try clear HO113)
         (try clear HO116)
         (try clear BK101)
         (try clear BK119)
         (try clear HB)
         clear hW_
         have HO106 := n0_
         have HO113 := n1_
         have HO116 := n2_
         have BK101 := n3_
         have BK119 := n4_
         have HB := n5_
         clear n0_ n1_ n2_ n3_ n4_ n5_
         replace HO106 := Aside0.mk (Kd.R_drew HO106.out)
         replace HO113 := Aside0.mk (Kd.R_drew HO113.out)
         replace HO116 := Aside0.mk (Kd.R_drew HO116.out)
         replace BK101 := Aside0.mk (blk_drew BK101.out)
         replace BK119 := Aside0.mk (blk_drew BK119.out)
         replace HB := Aside0.mk (below_drew1 HB.out)
         have hcv73 := own_string (P := Try.prog) Try.underlying22 Try.underlying5 Try.underlying9 (Kd.own_of_R HO106.out)
         refine start_ (n := 24) (S := fun w' => w'.cell? ⟨gb101, 0, none⟩ = some (.slice A0_0 l0_0.length c0_0) ∧ w'.cell? ⟨gb101, 1, none⟩ = some (.slice A0_1 l0_1.length c0_1) ∧ Sem.run Try.prog (Go.convert 22 9 (Value.slice Ao64 t104.length co64)) w' = Result.ok (.string (strOfNums t104)) w') (ds := []) #[false, false, false, false, false, false, false, false, false, false, false, false, false, false, false, false, false, false, false, false, false, false, false, false] (by kernel_rfl) rfl rfl ⟨(blk_cell BK101.out 0).trans rfl, (blk_cell BK101.out 1).trans rfl, own_string (P := Try.prog) Try.underlying22 Try.underlying5 Try.underlying9 (Kd.own_of_R HO106.out)⟩ (fun hHeld => ?_); refine with_tabW ferrulelaw23_CertTexts.tab11 ferrulelaw23_CertTexts.bits11 (fun HT_ HW_ => ?_)
         generalize w71.drew = w72 at HO106 HO113 HO116 BK101 BK119 HB hHeld ⊢
         refine pV 0 39 rfl rfl ?_
         refine pV 1 40 rfl rfl ?_
         refine pV 2 41 rfl rfl ?_
         refine pV 3 42 rfl rfl ?_
         refine tV (hy := by refine Or.inl ⟨by rfl, ?_⟩; rintro w_ ⟨_, _, hs_⟩; go_simp; with_reducible rfl) 4 43 rfl rfl ?_
         refine tV 5 44 rfl rfl ?_
         refine one_ (i := 6) (N := some 45) #[true, true, true, true, true, true, true, false, false, false, false, false, false, false, false, false, false, false, false, false, false, false, false, false] rfl rfl (one_of HT_.out (by kernel_rfl)) (by decide) (fun K hK => ?_)
         refine goes_ Try.func31 (by kernel_rfl) rfl #[.agg #[.slice A0_0 l0_0.length c0_0, .slice A0_1 l0_1.length c0_1]] (by rfl) rfl rfl bM ?_
         with_reducible refine (ferruleref23_Bytes.calls k _ _ l0_0 _ _ l0_1 t120 _ ?side1 ?side2 ?side3 ?side4 A23.out).mono ?_
         (case side1 => exact sW (Kd.C_below HR0_0.out HB.out))
         (case side2 => exact HC0_0.out)
         (case side3 => exact sW (Kd.C_below HR0_1.out HB.out))
         (case side4 => exact HC0_1.out)
         rintro e w74 ⟨v121, rfl, ho0, hb⟩
         refine ⟨_, rfl, ?_⟩
         replace HO113 := aR HO113 hb
         replace HO116 := aR HO116 hb
         have HO122 := aN ho0 HO106 HB
         replace HO106 := aE HO106 ho0 hb
         replace BK101 := aK BK101 hb
         replace BK119 := aK BK119 hb
         replace HB := aB HB hb
         (try clear hb)
         (try clear hb2)
         (try clear hk)
         (try clear hi)
         (try clear ho0)
         refine hK.out _ _ ⟨(blk_cell BK101.out 0).trans rfl, (blk_cell BK101.out 1).trans rfl, own_string (P := Try.prog) Try.underlying22 Try.underlying5 Try.underlying9 (Kd.own_of_R HO106.out)⟩ (fun hHeld => ?_)
         clear hK K
         refine norm_ (a' := ?_) ?_ ?_
         rotate_left
         ·show Act.put _ (some 45) _ = _
          simp only [Act.put, List.setIfInBounds_toArray, List.set_cons_zero, List.set_cons_succ, i64_w, i32_w]
          rfl
         refine one_ (i := 7) (N := some 46) #[true, true, true, true, true, true, true, true, false, false, false, false, false, false, false, false, false, false, false, false, false, false, false, false] rfl rfl (one_of HT_.out (by kernel_rfl)) (by decide) (fun K hK => ?_)
         have hcv75 := own_string (P := Try.prog) Try.underlying22 Try.underlying5 Try.underlying9 (Kd.own_of_R HO122.out)
         refine value_ (w1 := ?_) (v := ?_) (by rfl) rfl ?_ ?_
         rotate_left 2
         ·go_simp
          constructor
          ·rfl
          ·rfl
         clear hcv75
         refine hK.out _ _ ⟨(blk_cell BK101.out 0).trans rfl, (blk_cell BK101.out 1).trans rfl, own_string (P := Try.prog) Try.underlying22 Try.underlying5 Try.underlying9 (Kd.own_of_R HO106.out)⟩ (fun hHeld => ?_)
         clear hK K
         refine norm_ (a' := ?_) ?_ ?_
         rotate_left
         ·show Act.put _ (some 46) _ = _
          simp only [Act.put, List.setIfInBounds_toArray, List.set_cons_zero, List.set_cons_succ, i64_w, i32_w]
          rfl
         refine pV 8 47 rfl rfl ?_
         refine pV 9 48 rfl rfl ?_
         refine pV 10 49 rfl rfl ?_
         refine pV 11 50 rfl rfl ?_
         refine pV 12 51 rfl rfl ?_
         refine pV 13 52 rfl rfl ?_
         refine pV 14 53 rfl rfl ?_
         refine pV 15 54 rfl rfl ?_
         refine pV 16 55 rfl rfl ?_
         refine pV 17 56 rfl rfl ?_
         refine pV 18 57 rfl rfl ?_
         refine pU 19 58 rfl rfl ?_
         refine pU 20 59 rfl rfl ?_
         refine pU 21 60 rfl rfl ?_
         refine pV 22 61 rfl rfl ?_
         refine pV 23 2 rfl rfl ?_
         refine done_ (done_of HT_.out (by kernel_rfl)) ?_
         try go_wp2
         go_ret
         exact ⟨by first | rfl | (simp [errW_none, errW_some] <;> rfl) | (simp [*, errW_none, errW_some] <;> rfl), bB⟩
       ·rw [if_neg c25] at H
        have c25b0 : (t118 == 0) = false := beq_eq_false_iff_ne.mpr c25
        have c25b1 : (t118 != 0) = true := bne_iff_ne.mpr c25
        obtain rfl := Option.some.inj H
        go_enter Try.func7, Try.ntmps7
        try go_wp2_with (first | ((with_reducible refine gate_dst (N := 1) rfl ?_); refine box_event ?hg (N := 1) ?hd (cs := #[.slice A0_0 l0_0.length c0_0, .slice A0_1 l0_1.length c0_1]) (t := 52) ?hr ?_; (case hd => rfl); (case hg => rfl); (case hr => first | (go_simp; done) | (go_simp; rfl)); intro gb101 hg w77 hbox hb; have BK101 := Aside0.mk hbox; have GW101 := Aside0.mk ((by rw [hg]; exact (below_size bB) : w.heap.size ≤ gb101)); have GE101 := Aside0.mk ((by rw [hg]; exact (below_size bB) : w.heap.size ≤ gb101)); replace HB := aB HB hb; clear hb hbox hg) | ((with_reducible refine gate_callee (f := 25) rfl ?_); refine goesL_ (some 8) rfl rfl Try.func25 (by kernel_rfl) rfl #[] rfl bM ?_; (with_reducible refine (ferrulelaw23_awake.calls k  true _ A2.out).mono ?_); rintro e w78 ⟨rfl, hb⟩; refine ⟨_, rfl, ?_⟩; replace BK101 := aK BK101 hb; replace HB := aB HB hb; (try clear hb); (try clear hb2); (try clear hk); (try clear hi); have hcz79_0 : w78.cell? ⟨gb101, 0, none⟩ = some (.slice A0_0 l0_0.length c0_0) := (blk_cell BK101.out 0).trans rfl; have hcz79_1 : w78.cell? ⟨gb101, 1, none⟩ = some (.slice A0_1 l0_1.length c0_1) := (blk_cell BK101.out 1).trans rfl; have hfz79_0 := blk_frozen BK101.out 0; have hfz79_1 := blk_frozen BK101.out 1) | ((with_reducible refine gate_callee (f := 26) rfl ?_); refine goesL_ (some 11) rfl rfl Try.func26 (by kernel_rfl) rfl #[.agg #[.slice A0_0 l0_0.length c0_0, .slice A0_1 l0_1.length c0_1]] rfl bM ?_; (with_reducible refine (ferrulelaw23_few.calls k _ _ l0_0 _ _ l0_1 true _ ?side1 ?side2 ?side3 ?side4 A4.out).mono ?_); (case side1 => exact sW (Kd.C_below HR0_0.out HB.out)); (case side2 => exact HC0_0.out); (case side3 => exact sW (Kd.C_below HR0_1.out HB.out)); (case side4 => exact HC0_1.out); rintro e w80 ⟨rfl, hb⟩; refine ⟨_, rfl, ?_⟩; replace BK101 := aK BK101 hb; replace HB := aB HB hb; (try clear hb); (try clear hb2); (try clear hk); (try clear hi); have hcz81_0 : w80.cell? ⟨gb101, 0, none⟩ = some (.slice A0_0 l0_0.length c0_0) := (blk_cell BK101.out 0).trans rfl; have hcz81_1 : w80.cell? ⟨gb101, 1, none⟩ = some (.slice A0_1 l0_1.length c0_1) := (blk_cell BK101.out 1).trans rfl; have hfz81_0 := blk_frozen BK101.out 0; have hfz81_1 := blk_frozen BK101.out 1) | ((with_reducible refine gate_callee (f := 27) rfl ?_); refine goesL_ (some 15) rfl rfl Try.func27 (by kernel_rfl) rfl #[.agg #[.slice A0_0 l0_0.length c0_0, .slice A0_1 l0_1.length c0_1]] rfl bM ?_; (with_reducible refine (cert_Bytes.calls _ _ l0_0 _ _ l0_1 t104 t107 _ ?side1 ?side2 ?side3 ?side4 A6.out).mono ?_); (case side1 => exact sW (Kd.C_below HR0_0.out HB.out)); (case side2 => exact HC0_0.out); (case side3 => exact sW (Kd.C_below HR0_1.out HB.out)); (case side4 => exact HC0_1.out); rintro e w82 ⟨v105, rfl, ho0, hb⟩; refine ⟨_, rfl, ?_⟩; have HO106 := aL ho0 HB; replace BK101 := aK BK101 hb; replace HB := aB HB hb; (try clear hb); (try clear hb2); (try clear hk); (try clear hi); (try clear ho0)))
        replace HO106 := Aside0.mk (Kd.R_drew HO106.out)
        replace BK101 := Aside0.mk (blk_drew BK101.out)
        replace HB := Aside0.mk (below_drew1 HB.out)
        refine start_ (n := 5) (S := fun w' => w'.cell? ⟨gb101, 0, none⟩ = some (.slice A0_0 l0_0.length c0_0) ∧ w'.cell? ⟨gb101, 1, none⟩ = some (.slice A0_1 l0_1.length c0_1)) (ds := []) #[false, false, false, false, false] (by kernel_rfl) rfl rfl ⟨(blk_cell BK101.out 0).trans rfl, (blk_cell BK101.out 1).trans rfl⟩ (fun hHeld => ?_)
        generalize w82.drew = w83 at HO106 BK101 HB hHeld ⊢
        refine take_ (i := 0) (N := some 18) (v := ?_) (a' := ?_) #[true, false, false, false, false] rfl rfl (by kernel_rfl) (fun _ _ _ h => h) (Or.inl ⟨by rfl, ?_⟩) hHeld ?_ ?_
        rotate_left
        ·rintro w' ⟨s0, s1⟩
         go_simp
         with_reducible rfl
        rotate_left
        ·simp only [Act.put, List.setIfInBounds_toArray, List.set_cons_zero, List.set_cons_succ, i64_w, i32_w]
         rfl
        refine take_ (i := 2) (N := some 20) (v := ?_) (a' := ?_) #[true, false, true, false, false] rfl rfl (by kernel_rfl) (fun _ _ _ h => h) (Or.inl ⟨by rfl, ?_⟩) hHeld ?_ ?_
        rotate_left
        ·rintro w' ⟨s0, s1⟩
         go_simp
         with_reducible rfl
        rotate_left
        ·simp only [Act.put, List.setIfInBounds_toArray, List.set_cons_zero, List.set_cons_succ, i64_w, i32_w]
         rfl
        refine one_ (i := 1) (N := some 19) #[true, true, true, false, false] rfl rfl (by kernel_rfl) (by decide) (fun K hK => ?_)
        refine goes_ Try.func28 (by kernel_rfl) rfl #[.agg #[.slice A0_0 l0_0.length c0_0, .slice A0_1 l0_1.length c0_1]] (by rfl) rfl rfl bM ?_
        with_reducible refine (cert_Good.calls k _ _ l0_0 _ _ l0_1 t108 _ ?side1 ?side2 ?side3 ?side4 A7.out).mono ?_
        (case side1 => exact sW (Kd.C_below HR0_0.out HB.out))
        (case side2 => exact HC0_0.out)
        (case side3 => exact sW (Kd.C_below HR0_1.out HB.out))
        (case side4 => exact HC0_1.out)
        rintro e w84 ⟨rfl, hb⟩
        refine ⟨_, rfl, ?_⟩
        replace HO106 := aR HO106 hb
        replace BK101 := aK BK101 hb
        replace HB := aB HB hb
        (try clear hb)
        (try clear hb2)
        (try clear hk)
        (try clear hi)
        refine hK.out _ _ ⟨(blk_cell BK101.out 0).trans rfl, (blk_cell BK101.out 1).trans rfl⟩ (fun hHeld => ?_)
        clear hK K
        refine norm_ (a' := ?_) ?_ ?_
        rotate_left
        ·show Act.put _ (some 19) _ = _
         simp only [Act.put, List.setIfInBounds_toArray, List.set_cons_zero, List.set_cons_succ, i64_w, i32_w]
         rfl
        refine one_ (i := 3) (N := some 21) #[true, true, true, true, false] rfl rfl (by kernel_rfl) (by decide) (fun K hK => ?_)
        refine goes_ Try.func29 (by kernel_rfl) rfl #[.agg #[.slice A0_0 l0_0.length c0_0, .slice A0_1 l0_1.length c0_1]] (by rfl) rfl rfl bM ?_
        with_reducible refine (ferruleref23_Good.calls k _ _ l0_0 _ _ l0_1 t109 _ ?side1 ?side2 ?side3 ?side4 A8.out).mono ?_
        (case side1 => exact sW (Kd.C_below HR0_0.out HB.out))
        (case side2 => exact HC0_0.out)
        (case side3 => exact sW (Kd.C_below HR0_1.out HB.out))
        (case side4 => exact HC0_1.out)
        rintro e w85 ⟨rfl, hb⟩
        refine ⟨_, rfl, ?_⟩
        replace HO106 := aR HO106 hb
        replace BK101 := aK BK101 hb
        replace HB := aB HB hb
        (try clear hb)
        (try clear hb2)
        (try clear hk)
        (try clear hi)
        refine hK.out _ _ ⟨(blk_cell BK101.out 0).trans rfl, (blk_cell BK101.out 1).trans rfl⟩ (fun hHeld => ?_)
        clear hK K
        refine norm_ (a' := ?_) ?_ ?_
        rotate_left
        ·show Act.put _ (some 21) _ = _
         simp only [Act.put, List.setIfInBounds_toArray, List.set_cons_zero, List.set_cons_succ, i64_w, i32_w]
         rfl
        refine pure_ (i := 4) (N := some 22) (v := ?_) (a' := ?_) #[true, true, true, true, true] rfl rfl (by kernel_rfl) (fun _ _ _ h => h) (Or.inl ⟨by rfl, ?_⟩) ?_ ?_
        rotate_left
        ·intro w'
         go_simp
         with_reducible rfl
        rotate_left
        ·simp only [Act.put, List.setIfInBounds_toArray, List.set_cons_zero, List.set_cons_succ, i64_w, i32_w]
         rfl
        refine done_ (by kernel_rfl) ?_
        have hcz86_0 : w85.cell? ⟨gb101, 0, none⟩ = some (.slice A0_0 l0_0.length c0_0) := (blk_cell BK101.out 0).trans rfl
        have hcz86_1 : w85.cell? ⟨gb101, 1, none⟩ = some (.slice A0_1 l0_1.length c0_1) := (blk_cell BK101.out 1).trans rfl
        have hfz86_0 := blk_frozen BK101.out 0
        have hfz86_1 := blk_frozen BK101.out 1
        try go_wp2_with (first | ((with_reducible refine gate_callee (f := 29) rfl ?_); refine goesL_ (some 24) rfl rfl Try.func29 (by kernel_rfl) rfl #[.agg #[.slice A0_0 l0_0.length c0_0, .slice A0_1 l0_1.length c0_1]] rfl bM ?_; (with_reducible refine (ferruleref23_Good.calls k _ _ l0_0 _ _ l0_1 true _ ?side1 ?side2 ?side3 ?side4 A19.out).mono ?_); (case side1 => exact sW (Kd.C_below HR0_0.out HB.out)); (case side2 => exact HC0_0.out); (case side3 => exact sW (Kd.C_below HR0_1.out HB.out)); (case side4 => exact HC0_1.out); rintro e w87 ⟨rfl, hb⟩; refine ⟨_, rfl, ?_⟩; replace HO106 := aR HO106 hb; replace BK101 := aK BK101 hb; replace HB := aB HB hb; (try clear hb); (try clear hb2); (try clear hk); (try clear hi); obtain ⟨Ao88, co88, eo88⟩ := Kd.R_slice HO106.out; subst eo88) | ((with_reducible refine gate_callee (f := 30) rfl ?_); refine goesL_ (some 35) rfl rfl Try.func30 (by kernel_rfl) rfl #[.slice Ao88 t104.length co88] rfl bM ?_; (with_reducible refine (cert_Read.calls _ _ t104 t111 t114 t117 t118 _ ?side1 ?side2 A21.out).mono ?_); (case side1 => exact sW (Kd.R_reads' HO106.out).2.2); (case side2 => exact (Kd.R_reads' HO106.out).2.1); rintro e w89 ⟨v112, v115, rfl, ho0, ho1, hb⟩; refine ⟨_, rfl, ?_⟩; replace HO106 := aR HO106 hb; have HO113 := aL ho0 HB; have HO116 := aL ho1 HB; replace BK101 := aK BK101 hb; replace HB := aB HB hb; (try clear hb); (try clear hb2); (try clear hk); (try clear hi); (try clear ho0); (try clear ho1)) | ((with_reducible refine gate_dst (N := 5) rfl ?_); refine box_event ?hg (N := 5) ?hd (cs := #[.slice none 0 0, .slice none 0 0]) (t := 52) ?hr ?_; (case hd => rfl); (case hg => rfl); (case hr => first | (go_simp; done) | (go_simp; rfl)); intro gb119 hg w90 hbox hb; replace HO106 := aR HO106 hb; replace HO113 := aR HO113 hb; replace HO116 := aR HO116 hb; have BK119 := Aside0.mk hbox; have GW119 := Aside0.mk ((by rw [hg]; exact (below_size bB) : w.heap.size ≤ gb119)); have GE119 := Aside0.mk ((by rw [hg]; exact (below_size bB) : w.heap.size ≤ gb119)); replace HB := aB HB hb; have NB101_119 := Aside0.mk ((by rw [hg]; exact Nat.ne_of_lt (blk_lt (g := gb101) (o := .cells #[.slice A0_0 l0_0.length c0_0, .slice A0_1 l0_1.length c0_1] 52 (0, 0)) (aKw BK101)) : gb101 ≠ gb119)); have NB119_101 := Aside0.mk ((by rw [hg]; exact Nat.ne_of_gt (blk_lt (g := gb101) (o := .cells #[.slice A0_0 l0_0.length c0_0, .slice A0_1 l0_1.length c0_1] 52 (0, 0)) (aKw BK101)) : gb119 ≠ gb101)); replace BK101 := aK BK101 hb; clear hb hbox hg; obtain ⟨Ao91, co91, eo91⟩ := Kd.R_slice HO113.out; subst eo91; have hnb92 := NB119_101.out; have hnc92 := NB101_119.out; have hcz93_0 : w90.cell? ⟨gb119, 0, none⟩ = some (.slice none 0 0) := (blk_cell BK119.out 0).trans rfl; have hcz93_1 : w90.cell? ⟨gb119, 1, none⟩ = some (.slice none 0 0) := (blk_cell BK119.out 1).trans rfl; have hfz93_0 := blk_frozen BK119.out 0; have hfz93_1 := blk_frozen BK119.out 1; obtain ⟨Ao94, co94, eo94⟩ := Kd.R_slice HO116.out; subst eo94))
        generalize hW_ : ((w90.setCell ⟨gb119, 0, none⟩ (.slice Ao91 t111.length co91)).setCell ⟨gb119, 1, none⟩ (.slice Ao94 t114.length co94)) = w95
        have n0_ : Aside0 (Kd.R (Kd.int .u8) 5 w95 w.heap.size (fun _ => True) (.slice Ao88 t104.length co88) t104) := ⟨by subst hW_; (with_reducible repeat (first | apply Kd.R_alloc | apply Kd.R_drewN | apply Kd.R_drew)); exact Kd.R_mono (aG HO106 BK119) (fun _ hk => trivial)⟩
        have n1_ : Aside0 (Kd.R (Kd.int .i64) 3 w95 w.heap.size (fun _ => True) (.slice Ao91 t111.length co91) t111) := ⟨by subst hW_; (with_reducible repeat (first | apply Kd.R_alloc | apply Kd.R_drewN | apply Kd.R_drew)); exact Kd.R_mono (aG HO113 BK119) (fun _ hk => trivial)⟩
        have n2_ : Aside0 (Kd.R k95 95 w95 w.heap.size (fun k_ => some k_ ≠ ob Ao91 t111 co91) (.slice Ao94 t114.length co94) t114) := ⟨by subst hW_; (with_reducible repeat (first | apply Kd.R_alloc | apply Kd.R_drewN | apply Kd.R_drew)); exact Kd.R_mono (aG HO116 BK119) (fun _ hk => hk.1)⟩
        have n3_ : Aside0 (w95.heap[gb101]? = some (.cells #[.slice A0_0 l0_0.length c0_0, .slice A0_1 l0_1.length c0_1] 52 (0, 0))) := ⟨by subst hW_; (with_reducible repeat (first | refine blk_drewN ?_ _ | refine blk_drew ?_ | refine blk_alloc ?_ _)); refine blk_far ?_ NB101_119.out _; (with_reducible repeat (first | refine blk_drewN ?_ _ | refine blk_drew ?_ | refine blk_alloc ?_ _)); refine blk_far ?_ NB101_119.out _; (with_reducible repeat (first | refine blk_drewN ?_ _ | refine blk_drew ?_ | refine blk_alloc ?_ _)); exact BK101.out⟩
        have n4_ : Aside0 (w95.heap[gb119]? = some (.cells #[.slice Ao91 t111.length co91, .slice Ao94 t114.length co94] 52 (0, 0))) := ⟨by subst hW_; (with_reducible repeat (first | refine blk_drewN ?_ _ | refine blk_drew ?_ | refine blk_alloc ?_ _)); refine blk_put (cs := #[.slice Ao91 t111.length co91, .slice none 0 0]) ?_ 1 _ rfl; (with_reducible repeat (first | refine blk_drewN ?_ _ | refine blk_drew ?_ | refine blk_alloc ?_ _)); refine blk_put (cs := #[.slice none 0 0, .slice none 0 0]) ?_ 0 _ rfl; (with_reducible repeat (first | refine blk_drewN ?_ _ | refine blk_drew ?_ | refine blk_alloc ?_ _)); exact BK119.out⟩
        have n5_ : Aside0 (Below w.heap.size w w95) := ⟨by subst hW_; exact bB⟩
        (try clear HO106)
        (try clear HO113)
        (try clear HO116)
        (try clear BK101)
        (try clear BK119)
        (try clear HB)
        clear hW_
        have HO106 := n0_
        have HO113 := n1_
        have HO116 := n2_
        have BK101 := n3_
        have BK119 := n4_
        have HB := n5_
        clear n0_ n1_ n2_ n3_ n4_ n5_
        replace HO106 := Aside0.mk (Kd.R_drew HO106.out)
        replace HO113 := Aside0.mk (Kd.R_drew HO113.out)
        replace HO116 := Aside0.mk (Kd.R_drew HO116.out)
        replace BK101 := Aside0.mk (blk_drew BK101.out)
        replace BK119 := Aside0.mk (blk_drew BK119.out)
        replace HB := Aside0.mk (below_drew1 HB.out)
        have hcv97 := own_string (P := Try.prog) Try.underlying22 Try.underlying5 Try.underlying9 (Kd.own_of_R HO106.out)
        refine start_ (n := 24) (S := fun w' => w'.cell? ⟨gb101, 0, none⟩ = some (.slice A0_0 l0_0.length c0_0) ∧ w'.cell? ⟨gb101, 1, none⟩ = some (.slice A0_1 l0_1.length c0_1) ∧ Sem.run Try.prog (Go.convert 22 9 (Value.slice Ao88 t104.length co88)) w' = Result.ok (.string (strOfNums t104)) w') (ds := []) #[false, false, false, false, false, false, false, false, false, false, false, false, false, false, false, false, false, false, false, false, false, false, false, false] (by kernel_rfl) rfl rfl ⟨(blk_cell BK101.out 0).trans rfl, (blk_cell BK101.out 1).trans rfl, own_string (P := Try.prog) Try.underlying22 Try.underlying5 Try.underlying9 (Kd.own_of_R HO106.out)⟩ (fun hHeld => ?_); refine with_tabW ferrulelaw23_CertTexts.tab11 ferrulelaw23_CertTexts.bits11 (fun HT_ HW_ => ?_)
        generalize w95.drew = w96 at HO106 HO113 HO116 BK101 BK119 HB hHeld ⊢
        refine pV 0 39 rfl rfl ?_
        refine pV 1 40 rfl rfl ?_
        refine pV 2 41 rfl rfl ?_
        refine pV 3 42 rfl rfl ?_
        refine tV (hy := by refine Or.inl ⟨by rfl, ?_⟩; rintro w_ ⟨_, _, hs_⟩; go_simp; with_reducible rfl) 4 43 rfl rfl ?_
        refine tV 5 44 rfl rfl ?_
        refine one_ (i := 6) (N := some 45) #[true, true, true, true, true, true, true, false, false, false, false, false, false, false, false, false, false, false, false, false, false, false, false, false] rfl rfl (one_of HT_.out (by kernel_rfl)) (by decide) (fun K hK => ?_)
        refine goes_ Try.func31 (by kernel_rfl) rfl #[.agg #[.slice A0_0 l0_0.length c0_0, .slice A0_1 l0_1.length c0_1]] (by rfl) rfl rfl bM ?_
        with_reducible refine (ferruleref23_Bytes.calls k _ _ l0_0 _ _ l0_1 t120 _ ?side1 ?side2 ?side3 ?side4 A23.out).mono ?_
        (case side1 => exact sW (Kd.C_below HR0_0.out HB.out))
        (case side2 => exact HC0_0.out)
        (case side3 => exact sW (Kd.C_below HR0_1.out HB.out))
        (case side4 => exact HC0_1.out)
        rintro e w98 ⟨v121, rfl, ho0, hb⟩
        refine ⟨_, rfl, ?_⟩
        replace HO113 := aR HO113 hb
        replace HO116 := aR HO116 hb
        have HO122 := aN ho0 HO106 HB
        replace HO106 := aE HO106 ho0 hb
        replace BK101 := aK BK101 hb
        replace BK119 := aK BK119 hb
        replace HB := aB HB hb
        (try clear hb)
        (try clear hb2)
        (try clear hk)
        (try clear hi)
        (try clear ho0)
        refine hK.out _ _ ⟨(blk_cell BK101.out 0).trans rfl, (blk_cell BK101.out 1).trans rfl, own_string (P := Try.prog) Try.underlying22 Try.underlying5 Try.underlying9 (Kd.own_of_R HO106.out)⟩ (fun hHeld => ?_)
        clear hK K
        refine norm_ (a' := ?_) ?_ ?_
        rotate_left
        ·show Act.put _ (some 45) _ = _
         simp only [Act.put, List.setIfInBounds_toArray, List.set_cons_zero, List.set_cons_succ, i64_w, i32_w]
         rfl
        refine one_ (i := 7) (N := some 46) #[true, true, true, true, true, true, true, true, false, false, false, false, false, false, false, false, false, false, false, false, false, false, false, false] rfl rfl (one_of HT_.out (by kernel_rfl)) (by decide) (fun K hK => ?_)
        have hcv99 := own_string (P := Try.prog) Try.underlying22 Try.underlying5 Try.underlying9 (Kd.own_of_R HO122.out)
        refine value_ (w1 := ?_) (v := ?_) (by rfl) rfl ?_ ?_
        rotate_left 2
        ·go_simp
         constructor
         ·rfl
         ·rfl
        clear hcv99
        refine hK.out _ _ ⟨(blk_cell BK101.out 0).trans rfl, (blk_cell BK101.out 1).trans rfl, own_string (P := Try.prog) Try.underlying22 Try.underlying5 Try.underlying9 (Kd.own_of_R HO106.out)⟩ (fun hHeld => ?_)
        clear hK K
        refine norm_ (a' := ?_) ?_ ?_
        rotate_left
        ·show Act.put _ (some 46) _ = _
         simp only [Act.put, List.setIfInBounds_toArray, List.set_cons_zero, List.set_cons_succ, i64_w, i32_w]
         rfl
        refine pV 8 47 rfl rfl ?_
        refine pV 9 48 rfl rfl ?_
        refine pV 10 49 rfl rfl ?_
        refine pV 11 50 rfl rfl ?_
        refine pV 12 51 rfl rfl ?_
        refine pV 13 52 rfl rfl ?_
        refine pV 14 53 rfl rfl ?_
        refine pU 15 54 rfl rfl ?_
        refine pU 16 55 rfl rfl ?_
        refine pV 17 56 rfl rfl ?_
        refine pV 18 57 rfl rfl ?_
        refine pU 19 58 rfl rfl ?_
        refine pU 20 59 rfl rfl ?_
        refine pU 21 60 rfl rfl ?_
        refine pV 22 61 rfl rfl ?_
        refine pV 23 2 rfl rfl ?_
        refine done_ (done_of HT_.out (by kernel_rfl)) ?_
        try go_wp2
        go_ret
        exact ⟨by first | rfl | (simp [errW_none, errW_some] <;> rfl) | (simp [*, errW_none, errW_some] <;> rfl), bB⟩
      ·rw [if_neg c24] at H
       have c24b0 : ((strOfNums t104).toList == (strOfNums t120).toList) = false := beq_eq_false_iff_ne.mpr c24
       have c24b1 : ((strOfNums t104).toList != (strOfNums t120).toList) = true := bne_iff_ne.mpr c24
       obtain rfl := Option.some.inj H
       go_enter Try.func7, Try.ntmps7
       try go_wp2_with (first | ((with_reducible refine gate_dst (N := 1) rfl ?_); refine box_event ?hg (N := 1) ?hd (cs := #[.slice A0_0 l0_0.length c0_0, .slice A0_1 l0_1.length c0_1]) (t := 52) ?hr ?_; (case hd => rfl); (case hg => rfl); (case hr => first | (go_simp; done) | (go_simp; rfl)); intro gb101 hg w101 hbox hb; have BK101 := Aside0.mk hbox; have GW101 := Aside0.mk ((by rw [hg]; exact (below_size bB) : w.heap.size ≤ gb101)); have GE101 := Aside0.mk ((by rw [hg]; exact (below_size bB) : w.heap.size ≤ gb101)); replace HB := aB HB hb; clear hb hbox hg) | ((with_reducible refine gate_callee (f := 25) rfl ?_); refine goesL_ (some 8) rfl rfl Try.func25 (by kernel_rfl) rfl #[] rfl bM ?_; (with_reducible refine (ferrulelaw23_awake.calls k  true _ A2.out).mono ?_); rintro e w102 ⟨rfl, hb⟩; refine ⟨_, rfl, ?_⟩; replace BK101 := aK BK101 hb; replace HB := aB HB hb; (try clear hb); (try clear hb2); (try clear hk); (try clear hi); have hcz103_0 : w102.cell? ⟨gb101, 0, none⟩ = some (.slice A0_0 l0_0.length c0_0) := (blk_cell BK101.out 0).trans rfl; have hcz103_1 : w102.cell? ⟨gb101, 1, none⟩ = some (.slice A0_1 l0_1.length c0_1) := (blk_cell BK101.out 1).trans rfl; have hfz103_0 := blk_frozen BK101.out 0; have hfz103_1 := blk_frozen BK101.out 1) | ((with_reducible refine gate_callee (f := 26) rfl ?_); refine goesL_ (some 11) rfl rfl Try.func26 (by kernel_rfl) rfl #[.agg #[.slice A0_0 l0_0.length c0_0, .slice A0_1 l0_1.length c0_1]] rfl bM ?_; (with_reducible refine (ferrulelaw23_few.calls k _ _ l0_0 _ _ l0_1 true _ ?side1 ?side2 ?side3 ?side4 A4.out).mono ?_); (case side1 => exact sW (Kd.C_below HR0_0.out HB.out)); (case side2 => exact HC0_0.out); (case side3 => exact sW (Kd.C_below HR0_1.out HB.out)); (case side4 => exact HC0_1.out); rintro e w104 ⟨rfl, hb⟩; refine ⟨_, rfl, ?_⟩; replace BK101 := aK BK101 hb; replace HB := aB HB hb; (try clear hb); (try clear hb2); (try clear hk); (try clear hi); have hcz105_0 : w104.cell? ⟨gb101, 0, none⟩ = some (.slice A0_0 l0_0.length c0_0) := (blk_cell BK101.out 0).trans rfl; have hcz105_1 : w104.cell? ⟨gb101, 1, none⟩ = some (.slice A0_1 l0_1.length c0_1) := (blk_cell BK101.out 1).trans rfl; have hfz105_0 := blk_frozen BK101.out 0; have hfz105_1 := blk_frozen BK101.out 1) | ((with_reducible refine gate_callee (f := 27) rfl ?_); refine goesL_ (some 15) rfl rfl Try.func27 (by kernel_rfl) rfl #[.agg #[.slice A0_0 l0_0.length c0_0, .slice A0_1 l0_1.length c0_1]] rfl bM ?_; (with_reducible refine (cert_Bytes.calls _ _ l0_0 _ _ l0_1 t104 t107 _ ?side1 ?side2 ?side3 ?side4 A6.out).mono ?_); (case side1 => exact sW (Kd.C_below HR0_0.out HB.out)); (case side2 => exact HC0_0.out); (case side3 => exact sW (Kd.C_below HR0_1.out HB.out)); (case side4 => exact HC0_1.out); rintro e w106 ⟨v105, rfl, ho0, hb⟩; refine ⟨_, rfl, ?_⟩; have HO106 := aL ho0 HB; replace BK101 := aK BK101 hb; replace HB := aB HB hb; (try clear hb); (try clear hb2); (try clear hk); (try clear hi); (try clear ho0)))
       replace HO106 := Aside0.mk (Kd.R_drew HO106.out)
       replace BK101 := Aside0.mk (blk_drew BK101.out)
       replace HB := Aside0.mk (below_drew1 HB.out)
       refine start_ (n := 5) (S := fun w' => w'.cell? ⟨gb101, 0, none⟩ = some (.slice A0_0 l0_0.length c0_0) ∧ w'.cell? ⟨gb101, 1, none⟩ = some (.slice A0_1 l0_1.length c0_1)) (ds := []) #[false, false, false, false, false] (by kernel_rfl) rfl rfl ⟨(blk_cell BK101.out 0).trans rfl, (blk_cell BK101.out 1).trans rfl⟩ (fun hHeld => ?_)
       generalize w106.drew = w107 at HO106 BK101 HB hHeld ⊢
       refine take_ (i := 0) (N := some 18) (v := ?_) (a' := ?_) #[true, false, false, false, false] rfl rfl (by kernel_rfl) (fun _ _ _ h => h) (Or.inl ⟨by rfl, ?_⟩) hHeld ?_ ?_
       rotate_left
       ·rintro w' ⟨s0, s1⟩
        go_simp
        with_reducible rfl
       rotate_left
       ·simp only [Act.put, List.setIfInBounds_toArray, List.set_cons_zero, List.set_cons_succ, i64_w, i32_w]
        rfl
       refine take_ (i := 2) (N := some 20) (v := ?_) (a' := ?_) #[true, false, true, false, false] rfl rfl (by kernel_rfl) (fun _ _ _ h => h) (Or.inl ⟨by rfl, ?_⟩) hHeld ?_ ?_
       rotate_left
       ·rintro w' ⟨s0, s1⟩
        go_simp
        with_reducible rfl
       rotate_left
       ·simp only [Act.put, List.setIfInBounds_toArray, List.set_cons_zero, List.set_cons_succ, i64_w, i32_w]
        rfl
       refine one_ (i := 1) (N := some 19) #[true, true, true, false, false] rfl rfl (by kernel_rfl) (by decide) (fun K hK => ?_)
       refine goes_ Try.func28 (by kernel_rfl) rfl #[.agg #[.slice A0_0 l0_0.length c0_0, .slice A0_1 l0_1.length c0_1]] (by rfl) rfl rfl bM ?_
       with_reducible refine (cert_Good.calls k _ _ l0_0 _ _ l0_1 t108 _ ?side1 ?side2 ?side3 ?side4 A7.out).mono ?_
       (case side1 => exact sW (Kd.C_below HR0_0.out HB.out))
       (case side2 => exact HC0_0.out)
       (case side3 => exact sW (Kd.C_below HR0_1.out HB.out))
       (case side4 => exact HC0_1.out)
       rintro e w108 ⟨rfl, hb⟩
       refine ⟨_, rfl, ?_⟩
       replace HO106 := aR HO106 hb
       replace BK101 := aK BK101 hb
       replace HB := aB HB hb
       (try clear hb)
       (try clear hb2)
       (try clear hk)
       (try clear hi)
       refine hK.out _ _ ⟨(blk_cell BK101.out 0).trans rfl, (blk_cell BK101.out 1).trans rfl⟩ (fun hHeld => ?_)
       clear hK K
       refine norm_ (a' := ?_) ?_ ?_
       rotate_left
       ·show Act.put _ (some 19) _ = _
        simp only [Act.put, List.setIfInBounds_toArray, List.set_cons_zero, List.set_cons_succ, i64_w, i32_w]
        rfl
       refine one_ (i := 3) (N := some 21) #[true, true, true, true, false] rfl rfl (by kernel_rfl) (by decide) (fun K hK => ?_)
       refine goes_ Try.func29 (by kernel_rfl) rfl #[.agg #[.slice A0_0 l0_0.length c0_0, .slice A0_1 l0_1.length c0_1]] (by rfl) rfl rfl bM ?_
       with_reducible refine (ferruleref23_Good.calls k _ _ l0_0 _ _ l0_1 t109 _ ?side1 ?side2 ?side3 ?side4 A8.out).mono ?_
       (case side1 => exact sW (Kd.C_below HR0_0.out HB.out))
       (case side2 => exact HC0_0.out)
       (case side3 => exact sW (Kd.C_below HR0_1.out HB.out))
       (case side4 => exact HC0_1.out)
       rintro e w109 ⟨rfl, hb⟩
       refine ⟨_, rfl, ?_⟩
       replace HO106 := aR HO106 hb
       replace BK101 := aK BK101 hb
       replace HB := aB HB hb
       (try clear hb)
       (try clear hb2)
       (try clear hk)
       (try clear hi)
       refine hK.out _ _ ⟨(blk_cell BK101.out 0).trans rfl, (blk_cell BK101.out 1).trans rfl⟩ (fun hHeld => ?_)
       clear hK K
       refine norm_ (a' := ?_) ?_ ?_
       rotate_left
       ·show Act.put _ (some 21) _ = _
        simp only [Act.put, List.setIfInBounds_toArray, List.set_cons_zero, List.set_cons_succ, i64_w, i32_w]
        rfl
       refine pure_ (i := 4) (N := some 22) (v := ?_) (a' := ?_) #[true, true, true, true, true] rfl rfl (by kernel_rfl) (fun _ _ _ h => h) (Or.inl ⟨by rfl, ?_⟩) ?_ ?_
       rotate_left
       ·intro w'
        go_simp
        with_reducible rfl
       rotate_left
       ·simp only [Act.put, List.setIfInBounds_toArray, List.set_cons_zero, List.set_cons_succ, i64_w, i32_w]
        rfl
       refine done_ (by kernel_rfl) ?_
       have hcz110_0 : w109.cell? ⟨gb101, 0, none⟩ = some (.slice A0_0 l0_0.length c0_0) := (blk_cell BK101.out 0).trans rfl
       have hcz110_1 : w109.cell? ⟨gb101, 1, none⟩ = some (.slice A0_1 l0_1.length c0_1) := (blk_cell BK101.out 1).trans rfl
       have hfz110_0 := blk_frozen BK101.out 0
       have hfz110_1 := blk_frozen BK101.out 1
       try go_wp2_with (first | ((with_reducible refine gate_callee (f := 29) rfl ?_); refine goesL_ (some 24) rfl rfl Try.func29 (by kernel_rfl) rfl #[.agg #[.slice A0_0 l0_0.length c0_0, .slice A0_1 l0_1.length c0_1]] rfl bM ?_; (with_reducible refine (ferruleref23_Good.calls k _ _ l0_0 _ _ l0_1 true _ ?side1 ?side2 ?side3 ?side4 A19.out).mono ?_); (case side1 => exact sW (Kd.C_below HR0_0.out HB.out)); (case side2 => exact HC0_0.out); (case side3 => exact sW (Kd.C_below HR0_1.out HB.out)); (case side4 => exact HC0_1.out); rintro e w111 ⟨rfl, hb⟩; refine ⟨_, rfl, ?_⟩; replace HO106 := aR HO106 hb; replace BK101 := aK BK101 hb; replace HB := aB HB hb; (try clear hb); (try clear hb2); (try clear hk); (try clear hi); obtain ⟨Ao112, co112, eo112⟩ := Kd.R_slice HO106.out; subst eo112) | ((with_reducible refine gate_callee (f := 30) rfl ?_); refine goesL_ (some 35) rfl rfl Try.func30 (by kernel_rfl) rfl #[.slice Ao112 t104.length co112] rfl bM ?_; (with_reducible refine (cert_Read.calls _ _ t104 t111 t114 t117 t118 _ ?side1 ?side2 A21.out).mono ?_); (case side1 => exact sW (Kd.R_reads' HO106.out).2.2); (case side2 => exact (Kd.R_reads' HO106.out).2.1); rintro e w113 ⟨v112, v115, rfl, ho0, ho1, hb⟩; refine ⟨_, rfl, ?_⟩; replace HO106 := aR HO106 hb; have HO113 := aL ho0 HB; have HO116 := aL ho1 HB; replace BK101 := aK BK101 hb; replace HB := aB HB hb; (try clear hb); (try clear hb2); (try clear hk); (try clear hi); (try clear ho0); (try clear ho1)) | ((with_reducible refine gate_dst (N := 5) rfl ?_); refine box_event ?hg (N := 5) ?hd (cs := #[.slice none 0 0, .slice none 0 0]) (t := 52) ?hr ?_; (case hd => rfl); (case hg => rfl); (case hr => first | (go_simp; done) | (go_simp; rfl)); intro gb119 hg w114 hbox hb; replace HO106 := aR HO106 hb; replace HO113 := aR HO113 hb; replace HO116 := aR HO116 hb; have BK119 := Aside0.mk hbox; have GW119 := Aside0.mk ((by rw [hg]; exact (below_size bB) : w.heap.size ≤ gb119)); have GE119 := Aside0.mk ((by rw [hg]; exact (below_size bB) : w.heap.size ≤ gb119)); replace HB := aB HB hb; have NB101_119 := Aside0.mk ((by rw [hg]; exact Nat.ne_of_lt (blk_lt (g := gb101) (o := .cells #[.slice A0_0 l0_0.length c0_0, .slice A0_1 l0_1.length c0_1] 52 (0, 0)) (aKw BK101)) : gb101 ≠ gb119)); have NB119_101 := Aside0.mk ((by rw [hg]; exact Nat.ne_of_gt (blk_lt (g := gb101) (o := .cells #[.slice A0_0 l0_0.length c0_0, .slice A0_1 l0_1.length c0_1] 52 (0, 0)) (aKw BK101)) : gb119 ≠ gb101)); replace BK101 := aK BK101 hb; clear hb hbox hg; obtain ⟨Ao115, co115, eo115⟩ := Kd.R_slice HO113.out; subst eo115; have hnb116 := NB119_101.out; have hnc116 := NB101_119.out; have hcz117_0 : w114.cell? ⟨gb119, 0, none⟩ = some (.slice none 0 0) := (blk_cell BK119.out 0).trans rfl; have hcz117_1 : w114.cell? ⟨gb119, 1, none⟩ = some (.slice none 0 0) := (blk_cell BK119.out 1).trans rfl; have hfz117_0 := blk_frozen BK119.out 0; have hfz117_1 := blk_frozen BK119.out 1; obtain ⟨Ao118, co118, eo118⟩ := Kd.R_slice HO116.out; subst eo118))
       generalize hW_ : ((w114.setCell ⟨gb119, 0, none⟩ (.slice Ao115 t111.length co115)).setCell ⟨gb119, 1, none⟩ (.slice Ao118 t114.length co118)) = w119
       have n0_ : Aside0 (Kd.R (Kd.int .u8) 5 w119 w.heap.size (fun _ => True) (.slice Ao112 t104.length co112) t104) := ⟨by subst hW_; (with_reducible repeat (first | apply Kd.R_alloc | apply Kd.R_drewN | apply Kd.R_drew)); exact Kd.R_mono (aG HO106 BK119) (fun _ hk => trivial)⟩
       have n1_ : Aside0 (Kd.R (Kd.int .i64) 3 w119 w.heap.size (fun _ => True) (.slice Ao115 t111.length co115) t111) := ⟨by subst hW_; (with_reducible repeat (first | apply Kd.R_alloc | apply Kd.R_drewN | apply Kd.R_drew)); exact Kd.R_mono (aG HO113 BK119) (fun _ hk => trivial)⟩
       have n2_ : Aside0 (Kd.R k95 95 w119 w.heap.size (fun k_ => some k_ ≠ ob Ao115 t111 co115) (.slice Ao118 t114.length co118) t114) := ⟨by subst hW_; (with_reducible repeat (first | apply Kd.R_alloc | apply Kd.R_drewN | apply Kd.R_drew)); exact Kd.R_mono (aG HO116 BK119) (fun _ hk => hk.1)⟩
       have n3_ : Aside0 (w119.heap[gb101]? = some (.cells #[.slice A0_0 l0_0.length c0_0, .slice A0_1 l0_1.length c0_1] 52 (0, 0))) := ⟨by subst hW_; (with_reducible repeat (first | refine blk_drewN ?_ _ | refine blk_drew ?_ | refine blk_alloc ?_ _)); refine blk_far ?_ NB101_119.out _; (with_reducible repeat (first | refine blk_drewN ?_ _ | refine blk_drew ?_ | refine blk_alloc ?_ _)); refine blk_far ?_ NB101_119.out _; (with_reducible repeat (first | refine blk_drewN ?_ _ | refine blk_drew ?_ | refine blk_alloc ?_ _)); exact BK101.out⟩
       have n4_ : Aside0 (w119.heap[gb119]? = some (.cells #[.slice Ao115 t111.length co115, .slice Ao118 t114.length co118] 52 (0, 0))) := ⟨by subst hW_; (with_reducible repeat (first | refine blk_drewN ?_ _ | refine blk_drew ?_ | refine blk_alloc ?_ _)); refine blk_put (cs := #[.slice Ao115 t111.length co115, .slice none 0 0]) ?_ 1 _ rfl; (with_reducible repeat (first | refine blk_drewN ?_ _ | refine blk_drew ?_ | refine blk_alloc ?_ _)); refine blk_put (cs := #[.slice none 0 0, .slice none 0 0]) ?_ 0 _ rfl; (with_reducible repeat (first | refine blk_drewN ?_ _ | refine blk_drew ?_ | refine blk_alloc ?_ _)); exact BK119.out⟩
       have n5_ : Aside0 (Below w.heap.size w w119) := ⟨by subst hW_; exact bB⟩
       (try clear HO106)
       (try clear HO113)
       (try clear HO116)
       (try clear BK101)
       (try clear BK119)
       (try clear HB)
       clear hW_
       have HO106 := n0_
       have HO113 := n1_
       have HO116 := n2_
       have BK101 := n3_
       have BK119 := n4_
       have HB := n5_
       clear n0_ n1_ n2_ n3_ n4_ n5_
       replace HO106 := Aside0.mk (Kd.R_drew HO106.out)
       replace HO113 := Aside0.mk (Kd.R_drew HO113.out)
       replace HO116 := Aside0.mk (Kd.R_drew HO116.out)
       replace BK101 := Aside0.mk (blk_drew BK101.out)
       replace BK119 := Aside0.mk (blk_drew BK119.out)
       replace HB := Aside0.mk (below_drew1 HB.out)
       have hcv121 := own_string (P := Try.prog) Try.underlying22 Try.underlying5 Try.underlying9 (Kd.own_of_R HO106.out)
       refine start_ (n := 24) (S := fun w' => w'.cell? ⟨gb101, 0, none⟩ = some (.slice A0_0 l0_0.length c0_0) ∧ w'.cell? ⟨gb101, 1, none⟩ = some (.slice A0_1 l0_1.length c0_1) ∧ Sem.run Try.prog (Go.convert 22 9 (Value.slice Ao112 t104.length co112)) w' = Result.ok (.string (strOfNums t104)) w') (ds := []) #[false, false, false, false, false, false, false, false, false, false, false, false, false, false, false, false, false, false, false, false, false, false, false, false] (by kernel_rfl) rfl rfl ⟨(blk_cell BK101.out 0).trans rfl, (blk_cell BK101.out 1).trans rfl, own_string (P := Try.prog) Try.underlying22 Try.underlying5 Try.underlying9 (Kd.own_of_R HO106.out)⟩ (fun hHeld => ?_); refine with_tabW ferrulelaw23_CertTexts.tab11 ferrulelaw23_CertTexts.bits11 (fun HT_ HW_ => ?_)
       generalize w119.drew = w120 at HO106 HO113 HO116 BK101 BK119 HB hHeld ⊢
       refine pV 0 39 rfl rfl ?_
       refine pV 1 40 rfl rfl ?_
       refine pV 2 41 rfl rfl ?_
       refine pV 3 42 rfl rfl ?_
       refine tV (hy := by refine Or.inl ⟨by rfl, ?_⟩; rintro w_ ⟨_, _, hs_⟩; go_simp; with_reducible rfl) 4 43 rfl rfl ?_
       refine tV 5 44 rfl rfl ?_
       refine one_ (i := 6) (N := some 45) #[true, true, true, true, true, true, true, false, false, false, false, false, false, false, false, false, false, false, false, false, false, false, false, false] rfl rfl (one_of HT_.out (by kernel_rfl)) (by decide) (fun K hK => ?_)
       refine goes_ Try.func31 (by kernel_rfl) rfl #[.agg #[.slice A0_0 l0_0.length c0_0, .slice A0_1 l0_1.length c0_1]] (by rfl) rfl rfl bM ?_
       with_reducible refine (ferruleref23_Bytes.calls k _ _ l0_0 _ _ l0_1 t120 _ ?side1 ?side2 ?side3 ?side4 A23.out).mono ?_
       (case side1 => exact sW (Kd.C_below HR0_0.out HB.out))
       (case side2 => exact HC0_0.out)
       (case side3 => exact sW (Kd.C_below HR0_1.out HB.out))
       (case side4 => exact HC0_1.out)
       rintro e w122 ⟨v121, rfl, ho0, hb⟩
       refine ⟨_, rfl, ?_⟩
       replace HO113 := aR HO113 hb
       replace HO116 := aR HO116 hb
       have HO122 := aN ho0 HO106 HB
       replace HO106 := aE HO106 ho0 hb
       replace BK101 := aK BK101 hb
       replace BK119 := aK BK119 hb
       replace HB := aB HB hb
       (try clear hb)
       (try clear hb2)
       (try clear hk)
       (try clear hi)
       (try clear ho0)
       refine hK.out _ _ ⟨(blk_cell BK101.out 0).trans rfl, (blk_cell BK101.out 1).trans rfl, own_string (P := Try.prog) Try.underlying22 Try.underlying5 Try.underlying9 (Kd.own_of_R HO106.out)⟩ (fun hHeld => ?_)
       clear hK K
       refine norm_ (a' := ?_) ?_ ?_
       rotate_left
       ·show Act.put _ (some 45) _ = _
        simp only [Act.put, List.setIfInBounds_toArray, List.set_cons_zero, List.set_cons_succ, i64_w, i32_w]
        rfl
       refine one_ (i := 7) (N := some 46) #[true, true, true, true, true, true, true, true, false, false, false, false, false, false, false, false, false, false, false, false, false, false, false, false] rfl rfl (one_of HT_.out (by kernel_rfl)) (by decide) (fun K hK => ?_)
       have hcv123 := own_string (P := Try.prog) Try.underlying22 Try.underlying5 Try.underlying9 (Kd.own_of_R HO122.out)
       refine value_ (w1 := ?_) (v := ?_) (by rfl) rfl ?_ ?_
       rotate_left 2
       ·go_simp
        constructor
        ·rfl
        ·rfl
       clear hcv123
       refine hK.out _ _ ⟨(blk_cell BK101.out 0).trans rfl, (blk_cell BK101.out 1).trans rfl, own_string (P := Try.prog) Try.underlying22 Try.underlying5 Try.underlying9 (Kd.own_of_R HO106.out)⟩ (fun hHeld => ?_)
       clear hK K
       refine norm_ (a' := ?_) ?_ ?_
       rotate_left
       ·show Act.put _ (some 46) _ = _
        simp only [Act.put, List.setIfInBounds_toArray, List.set_cons_zero, List.set_cons_succ, i64_w, i32_w]
        rfl
       refine pV 8 47 rfl rfl ?_
       refine pV 9 48 rfl rfl ?_
       refine pV 10 49 rfl rfl ?_
       refine pU 11 50 rfl rfl ?_
       refine pU 12 51 rfl rfl ?_
       refine pV 13 52 rfl rfl ?_
       refine pV 14 53 rfl rfl ?_
       refine pU 15 54 rfl rfl ?_
       refine pU 16 55 rfl rfl ?_
       refine pV 17 56 rfl rfl ?_
       refine pV 18 57 rfl rfl ?_
       refine pU 19 58 rfl rfl ?_
       refine pU 20 59 rfl rfl ?_
       refine pU 21 60 rfl rfl ?_
       refine pV 22 61 rfl rfl ?_
       refine pV 23 2 rfl rfl ?_
       refine done_ (done_of HT_.out (by kernel_rfl)) ?_
       try go_wp2
       go_ret
       exact ⟨by first | rfl | (simp [errW_none, errW_some] <;> rfl) | (simp [*, errW_none, errW_some] <;> rfl), bB⟩
     ·rw [if_neg c22] at H
      have c22b0 : (t107 == 0) = false := beq_eq_false_iff_ne.mpr c22
      have c22b1 : (t107 != 0) = true := bne_iff_ne.mpr c22
      obtain rfl := Option.some.inj H
      go_enter Try.func7, Try.ntmps7
      try go_wp2_with (first | ((with_reducible refine gate_dst (N := 1) rfl ?_); refine box_event ?hg (N := 1) ?hd (cs := #[.slice A0_0 l0_0.length c0_0, .slice A0_1 l0_1.length c0_1]) (t := 52) ?hr ?_; (case hd => rfl); (case hg => rfl); (case hr => first | (go_simp; done) | (go_simp; rfl)); intro gb101 hg w125 hbox hb; have BK101 := Aside0.mk hbox; have GW101 := Aside0.mk ((by rw [hg]; exact (below_size bB) : w.heap.size ≤ gb101)); have GE101 := Aside0.mk ((by rw [hg]; exact (below_size bB) : w.heap.size ≤ gb101)); replace HB := aB HB hb; clear hb hbox hg) | ((with_reducible refine gate_callee (f := 25) rfl ?_); refine goesL_ (some 8) rfl rfl Try.func25 (by kernel_rfl) rfl #[] rfl bM ?_; (with_reducible refine (ferrulelaw23_awake.calls k  true _ A2.out).mono ?_); rintro e w126 ⟨rfl, hb⟩; refine ⟨_, rfl, ?_⟩; replace BK101 := aK BK101 hb; replace HB := aB HB hb; (try clear hb); (try clear hb2); (try clear hk); (try clear hi); have hcz127_0 : w126.cell? ⟨gb101, 0, none⟩ = some (.slice A0_0 l0_0.length c0_0) := (blk_cell BK101.out 0).trans rfl; have hcz127_1 : w126.cell? ⟨gb101, 1, none⟩ = some (.slice A0_1 l0_1.length c0_1) := (blk_cell BK101.out 1).trans rfl; have hfz127_0 := blk_frozen BK101.out 0; have hfz127_1 := blk_frozen BK101.out 1) | ((with_reducible refine gate_callee (f := 26) rfl ?_); refine goesL_ (some 11) rfl rfl Try.func26 (by kernel_rfl) rfl #[.agg #[.slice A0_0 l0_0.length c0_0, .slice A0_1 l0_1.length c0_1]] rfl bM ?_; (with_reducible refine (ferrulelaw23_few.calls k _ _ l0_0 _ _ l0_1 true _ ?side1 ?side2 ?side3 ?side4 A4.out).mono ?_); (case side1 => exact sW (Kd.C_below HR0_0.out HB.out)); (case side2 => exact HC0_0.out); (case side3 => exact sW (Kd.C_below HR0_1.out HB.out)); (case side4 => exact HC0_1.out); rintro e w128 ⟨rfl, hb⟩; refine ⟨_, rfl, ?_⟩; replace BK101 := aK BK101 hb; replace HB := aB HB hb; (try clear hb); (try clear hb2); (try clear hk); (try clear hi); have hcz129_0 : w128.cell? ⟨gb101, 0, none⟩ = some (.slice A0_0 l0_0.length c0_0) := (blk_cell BK101.out 0).trans rfl; have hcz129_1 : w128.cell? ⟨gb101, 1, none⟩ = some (.slice A0_1 l0_1.length c0_1) := (blk_cell BK101.out 1).trans rfl; have hfz129_0 := blk_frozen BK101.out 0; have hfz129_1 := blk_frozen BK101.out 1) | ((with_reducible refine gate_callee (f := 27) rfl ?_); refine goesL_ (some 15) rfl rfl Try.func27 (by kernel_rfl) rfl #[.agg #[.slice A0_0 l0_0.length c0_0, .slice A0_1 l0_1.length c0_1]] rfl bM ?_; (with_reducible refine (cert_Bytes.calls _ _ l0_0 _ _ l0_1 t104 t107 _ ?side1 ?side2 ?side3 ?side4 A6.out).mono ?_); (case side1 => exact sW (Kd.C_below HR0_0.out HB.out)); (case side2 => exact HC0_0.out); (case side3 => exact sW (Kd.C_below HR0_1.out HB.out)); (case side4 => exact HC0_1.out); rintro e w130 ⟨v105, rfl, ho0, hb⟩; refine ⟨_, rfl, ?_⟩; have HO106 := aL ho0 HB; replace BK101 := aK BK101 hb; replace HB := aB HB hb; (try clear hb); (try clear hb2); (try clear hk); (try clear hi); (try clear ho0)))
      replace HO106 := Aside0.mk (Kd.R_drew HO106.out)
      replace BK101 := Aside0.mk (blk_drew BK101.out)
      replace HB := Aside0.mk (below_drew1 HB.out)
      refine start_ (n := 5) (S := fun w' => w'.cell? ⟨gb101, 0, none⟩ = some (.slice A0_0 l0_0.length c0_0) ∧ w'.cell? ⟨gb101, 1, none⟩ = some (.slice A0_1 l0_1.length c0_1)) (ds := []) #[false, false, false, false, false] (by kernel_rfl) rfl rfl ⟨(blk_cell BK101.out 0).trans rfl, (blk_cell BK101.out 1).trans rfl⟩ (fun hHeld => ?_)
      generalize w130.drew = w131 at HO106 BK101 HB hHeld ⊢
      refine take_ (i := 0) (N := some 18) (v := ?_) (a' := ?_) #[true, false, false, false, false] rfl rfl (by kernel_rfl) (fun _ _ _ h => h) (Or.inl ⟨by rfl, ?_⟩) hHeld ?_ ?_
      rotate_left
      ·rintro w' ⟨s0, s1⟩
       go_simp
       with_reducible rfl
      rotate_left
      ·simp only [Act.put, List.setIfInBounds_toArray, List.set_cons_zero, List.set_cons_succ, i64_w, i32_w]
       rfl
      refine take_ (i := 2) (N := some 20) (v := ?_) (a' := ?_) #[true, false, true, false, false] rfl rfl (by kernel_rfl) (fun _ _ _ h => h) (Or.inl ⟨by rfl, ?_⟩) hHeld ?_ ?_
      rotate_left
      ·rintro w' ⟨s0, s1⟩
       go_simp
       with_reducible rfl
      rotate_left
      ·simp only [Act.put, List.setIfInBounds_toArray, List.set_cons_zero, List.set_cons_succ, i64_w, i32_w]
       rfl
      refine one_ (i := 1) (N := some 19) #[true, true, true, false, false] rfl rfl (by kernel_rfl) (by decide) (fun K hK => ?_)
      refine goes_ Try.func28 (by kernel_rfl) rfl #[.agg #[.slice A0_0 l0_0.length c0_0, .slice A0_1 l0_1.length c0_1]] (by rfl) rfl rfl bM ?_
      with_reducible refine (cert_Good.calls k _ _ l0_0 _ _ l0_1 t108 _ ?side1 ?side2 ?side3 ?side4 A7.out).mono ?_
      (case side1 => exact sW (Kd.C_below HR0_0.out HB.out))
      (case side2 => exact HC0_0.out)
      (case side3 => exact sW (Kd.C_below HR0_1.out HB.out))
      (case side4 => exact HC0_1.out)
      rintro e w132 ⟨rfl, hb⟩
      refine ⟨_, rfl, ?_⟩
      replace HO106 := aR HO106 hb
      replace BK101 := aK BK101 hb
      replace HB := aB HB hb
      (try clear hb)
      (try clear hb2)
      (try clear hk)
      (try clear hi)
      refine hK.out _ _ ⟨(blk_cell BK101.out 0).trans rfl, (blk_cell BK101.out 1).trans rfl⟩ (fun hHeld => ?_)
      clear hK K
      refine norm_ (a' := ?_) ?_ ?_
      rotate_left
      ·show Act.put _ (some 19) _ = _
       simp only [Act.put, List.setIfInBounds_toArray, List.set_cons_zero, List.set_cons_succ, i64_w, i32_w]
       rfl
      refine one_ (i := 3) (N := some 21) #[true, true, true, true, false] rfl rfl (by kernel_rfl) (by decide) (fun K hK => ?_)
      refine goes_ Try.func29 (by kernel_rfl) rfl #[.agg #[.slice A0_0 l0_0.length c0_0, .slice A0_1 l0_1.length c0_1]] (by rfl) rfl rfl bM ?_
      with_reducible refine (ferruleref23_Good.calls k _ _ l0_0 _ _ l0_1 t109 _ ?side1 ?side2 ?side3 ?side4 A8.out).mono ?_
      (case side1 => exact sW (Kd.C_below HR0_0.out HB.out))
      (case side2 => exact HC0_0.out)
      (case side3 => exact sW (Kd.C_below HR0_1.out HB.out))
      (case side4 => exact HC0_1.out)
      rintro e w133 ⟨rfl, hb⟩
      refine ⟨_, rfl, ?_⟩
      replace HO106 := aR HO106 hb
      replace BK101 := aK BK101 hb
      replace HB := aB HB hb
      (try clear hb)
      (try clear hb2)
      (try clear hk)
      (try clear hi)
      refine hK.out _ _ ⟨(blk_cell BK101.out 0).trans rfl, (blk_cell BK101.out 1).trans rfl⟩ (fun hHeld => ?_)
      clear hK K
      refine norm_ (a' := ?_) ?_ ?_
      rotate_left
      ·show Act.put _ (some 21) _ = _
       simp only [Act.put, List.setIfInBounds_toArray, List.set_cons_zero, List.set_cons_succ, i64_w, i32_w]
       rfl
      refine pure_ (i := 4) (N := some 22) (v := ?_) (a' := ?_) #[true, true, true, true, true] rfl rfl (by kernel_rfl) (fun _ _ _ h => h) (Or.inl ⟨by rfl, ?_⟩) ?_ ?_
      rotate_left
      ·intro w'
       go_simp
       with_reducible rfl
      rotate_left
      ·simp only [Act.put, List.setIfInBounds_toArray, List.set_cons_zero, List.set_cons_succ, i64_w, i32_w]
       rfl
      refine done_ (by kernel_rfl) ?_
      have hcz134_0 : w133.cell? ⟨gb101, 0, none⟩ = some (.slice A0_0 l0_0.length c0_0) := (blk_cell BK101.out 0).trans rfl
      have hcz134_1 : w133.cell? ⟨gb101, 1, none⟩ = some (.slice A0_1 l0_1.length c0_1) := (blk_cell BK101.out 1).trans rfl
      have hfz134_0 := blk_frozen BK101.out 0
      have hfz134_1 := blk_frozen BK101.out 1
      try go_wp2_with (first | ((with_reducible refine gate_callee (f := 29) rfl ?_); refine goesL_ (some 24) rfl rfl Try.func29 (by kernel_rfl) rfl #[.agg #[.slice A0_0 l0_0.length c0_0, .slice A0_1 l0_1.length c0_1]] rfl bM ?_; (with_reducible refine (ferruleref23_Good.calls k _ _ l0_0 _ _ l0_1 true _ ?side1 ?side2 ?side3 ?side4 A19.out).mono ?_); (case side1 => exact sW (Kd.C_below HR0_0.out HB.out)); (case side2 => exact HC0_0.out); (case side3 => exact sW (Kd.C_below HR0_1.out HB.out)); (case side4 => exact HC0_1.out); rintro e w135 ⟨rfl, hb⟩; refine ⟨_, rfl, ?_⟩; replace HO106 := aR HO106 hb; replace BK101 := aK BK101 hb; replace HB := aB HB hb; (try clear hb); (try clear hb2); (try clear hk); (try clear hi); obtain ⟨Ao136, co136, eo136⟩ := Kd.R_slice HO106.out; subst eo136) | ((with_reducible refine gate_callee (f := 30) rfl ?_); refine goesL_ (some 35) rfl rfl Try.func30 (by kernel_rfl) rfl #[.slice Ao136 t104.length co136] rfl bM ?_; (with_reducible refine (cert_Read.calls _ _ t104 t111 t114 t117 t118 _ ?side1 ?side2 A21.out).mono ?_); (case side1 => exact sW (Kd.R_reads' HO106.out).2.2); (case side2 => exact (Kd.R_reads' HO106.out).2.1); rintro e w137 ⟨v112, v115, rfl, ho0, ho1, hb⟩; refine ⟨_, rfl, ?_⟩; replace HO106 := aR HO106 hb; have HO113 := aL ho0 HB; have HO116 := aL ho1 HB; replace BK101 := aK BK101 hb; replace HB := aB HB hb; (try clear hb); (try clear hb2); (try clear hk); (try clear hi); (try clear ho0); (try clear ho1)) | ((with_reducible refine gate_dst (N := 5) rfl ?_); refine box_event ?hg (N := 5) ?hd (cs := #[.slice none 0 0, .slice none 0 0]) (t := 52) ?hr ?_; (case hd => rfl); (case hg => rfl); (case hr => first | (go_simp; done) | (go_simp; rfl)); intro gb119 hg w138 hbox hb; replace HO106 := aR HO106 hb; replace HO113 := aR HO113 hb; replace HO116 := aR HO116 hb; have BK119 := Aside0.mk hbox; have GW119 := Aside0.mk ((by rw [hg]; exact (below_size bB) : w.heap.size ≤ gb119)); have GE119 := Aside0.mk ((by rw [hg]; exact (below_size bB) : w.heap.size ≤ gb119)); replace HB := aB HB hb; have NB101_119 := Aside0.mk ((by rw [hg]; exact Nat.ne_of_lt (blk_lt (g := gb101) (o := .cells #[.slice A0_0 l0_0.length c0_0, .slice A0_1 l0_1.length c0_1] 52 (0, 0)) (aKw BK101)) : gb101 ≠ gb119)); have NB119_101 := Aside0.mk ((by rw [hg]; exact Nat.ne_of_gt (blk_lt (g := gb101) (o := .cells #[.slice A0_0 l0_0.length c0_0, .slice A0_1 l0_1.length c0_1] 52 (0, 0)) (aKw BK101)) : gb119 ≠ gb101)); replace BK101 := aK BK101 hb; clear hb hbox hg; obtain ⟨Ao139, co139, eo139⟩ := Kd.R_slice HO113.out; subst eo139; have hnb140 := NB119_101.out; have hnc140 := NB101_119.out; have hcz141_0 : w138.cell? ⟨gb119, 0, none⟩ = some (.slice none 0 0) := (blk_cell BK119.out 0).trans rfl; have hcz141_1 : w138.cell? ⟨gb119, 1, none⟩ = some (.slice none 0 0) := (blk_cell BK119.out 1).trans rfl; have hfz141_0 := blk_frozen BK119.out 0; have hfz141_1 := blk_frozen BK119.out 1; obtain ⟨Ao142, co142, eo142⟩ := Kd.R_slice HO116.out; subst eo142))
      generalize hW_ : ((w138.setCell ⟨gb119, 0, none⟩ (.slice Ao139 t111.length co139)).setCell ⟨gb119, 1, none⟩ (.slice Ao142 t114.length co142)) = w143
      have n0_ : Aside0 (Kd.R (Kd.int .u8) 5 w143 w.heap.size (fun _ => True) (.slice Ao136 t104.length co136) t104) := ⟨by subst hW_; (with_reducible repeat (first | apply Kd.R_alloc | apply Kd.R_drewN | apply Kd.R_drew)); exact Kd.R_mono (aG HO106 BK119) (fun _ hk => trivial)⟩
      have n1_ : Aside0 (Kd.R (Kd.int .i64) 3 w143 w.heap.size (fun _ => True) (.slice Ao139 t111.length co139) t111) := ⟨by subst hW_; (with_reducible repeat (first | apply Kd.R_alloc | apply Kd.R_drewN | apply Kd.R_drew)); exact Kd.R_mono (aG HO113 BK119) (fun _ hk => trivial)⟩
      have n2_ : Aside0 (Kd.R k95 95 w143 w.heap.size (fun k_ => some k_ ≠ ob Ao139 t111 co139) (.slice Ao142 t114.length co142) t114) := ⟨by subst hW_; (with_reducible repeat (first | apply Kd.R_alloc | apply Kd.R_drewN | apply Kd.R_drew)); exact Kd.R_mono (aG HO116 BK119) (fun _ hk => hk.1)⟩
      have n3_ : Aside0 (w143.heap[gb101]? = some (.cells #[.slice A0_0 l0_0.length c0_0, .slice A0_1 l0_1.length c0_1] 52 (0, 0))) := ⟨by subst hW_; (with_reducible repeat (first | refine blk_drewN ?_ _ | refine blk_drew ?_ | refine blk_alloc ?_ _)); refine blk_far ?_ NB101_119.out _; (with_reducible repeat (first | refine blk_drewN ?_ _ | refine blk_drew ?_ | refine blk_alloc ?_ _)); refine blk_far ?_ NB101_119.out _; (with_reducible repeat (first | refine blk_drewN ?_ _ | refine blk_drew ?_ | refine blk_alloc ?_ _)); exact BK101.out⟩
      have n4_ : Aside0 (w143.heap[gb119]? = some (.cells #[.slice Ao139 t111.length co139, .slice Ao142 t114.length co142] 52 (0, 0))) := ⟨by subst hW_; (with_reducible repeat (first | refine blk_drewN ?_ _ | refine blk_drew ?_ | refine blk_alloc ?_ _)); refine blk_put (cs := #[.slice Ao139 t111.length co139, .slice none 0 0]) ?_ 1 _ rfl; (with_reducible repeat (first | refine blk_drewN ?_ _ | refine blk_drew ?_ | refine blk_alloc ?_ _)); refine blk_put (cs := #[.slice none 0 0, .slice none 0 0]) ?_ 0 _ rfl; (with_reducible repeat (first | refine blk_drewN ?_ _ | refine blk_drew ?_ | refine blk_alloc ?_ _)); exact BK119.out⟩
      have n5_ : Aside0 (Below w.heap.size w w143) := ⟨by subst hW_; exact bB⟩
      (try clear HO106)
      (try clear HO113)
      (try clear HO116)
      (try clear BK101)
      (try clear BK119)
      (try clear HB)
      clear hW_
      have HO106 := n0_
      have HO113 := n1_
      have HO116 := n2_
      have BK101 := n3_
      have BK119 := n4_
      have HB := n5_
      clear n0_ n1_ n2_ n3_ n4_ n5_
      replace HO106 := Aside0.mk (Kd.R_drew HO106.out)
      replace HO113 := Aside0.mk (Kd.R_drew HO113.out)
      replace HO116 := Aside0.mk (Kd.R_drew HO116.out)
      replace BK101 := Aside0.mk (blk_drew BK101.out)
      replace BK119 := Aside0.mk (blk_drew BK119.out)
      replace HB := Aside0.mk (below_drew1 HB.out)
      refine start_ (n := 24) (S := fun w' => True) (ds := []) #[false, false, false, false, false, false, false, false, false, false, false, false, false, false, false, false, false, false, false, false, false, false, false, false] (by kernel_rfl) rfl rfl trivial (fun hHeld => ?_); refine with_tabW ferrulelaw23_CertTexts.tab11 ferrulelaw23_CertTexts.bits11 (fun HT_ HW_ => ?_)
      generalize w143.drew = w144 at HO106 HO113 HO116 BK101 BK119 HB hHeld ⊢
      refine pV 0 39 rfl rfl ?_
      refine pV 1 40 rfl rfl ?_
      refine pV 2 41 rfl rfl ?_
      refine pU 3 42 rfl rfl ?_
      refine pU 4 43 rfl rfl ?_
      refine pU 5 44 rfl rfl ?_
      refine pU 6 45 rfl rfl ?_
      refine pU 7 46 rfl rfl ?_
      refine pU 8 47 rfl rfl ?_
      refine pV 9 48 rfl rfl ?_
      refine pV 10 49 rfl rfl ?_
      refine pU 11 50 rfl rfl ?_
      refine pU 12 51 rfl rfl ?_
      refine pV 13 52 rfl rfl ?_
      refine pV 14 53 rfl rfl ?_
      refine pU 15 54 rfl rfl ?_
      refine pU 16 55 rfl rfl ?_
      refine pV 17 56 rfl rfl ?_
      refine pV 18 57 rfl rfl ?_
      refine pU 19 58 rfl rfl ?_
      refine pU 20 59 rfl rfl ?_
      refine pU 21 60 rfl rfl ?_
      refine pV 22 61 rfl rfl ?_
      refine pV 23 2 rfl rfl ?_
      refine done_ (done_of HT_.out (by kernel_rfl)) ?_
      try go_wp2
      go_ret
      exact ⟨by first | rfl | (simp [errW_none, errW_some] <;> rfl) | (simp [*, errW_none, errW_some] <;> rfl), bB⟩
    ·replace c20 := Bool.eq_false_iff.mpr c20
     subst c20
     have H1 : (if (t104.length : Int) = 0 then (some (t107 == 3)) else (some false)) = some r := by rw [if_neg (show ¬ (false = true) by decide)] at H; exact H
     clear H
     have H := H1
     clear H1
     by_cases c145 : (t104.length : Int) = 0
     ·rw [if_pos c145] at H
      have c145b0 : ((t104.length : Int) == 0) = true := beq_iff_eq.mpr c145
      have c145b1 : ((t104.length : Int) != 0) = false := bne_eq_false_iff_eq.mpr c145
      clear c145
      obtain rfl := Option.some.inj H
      go_enter Try.func7, Try.ntmps7
      try go_wp2_with (first | ((with_reducible refine gate_dst (N := 1) rfl ?_); refine box_event ?hg (N := 1) ?hd (cs := #[.slice A0_0 l0_0.length c0_0, .slice A0_1 l0_1.length c0_1]) (t := 52) ?hr ?_; (case hd => rfl); (case hg => rfl); (case hr => first | (go_simp; done) | (go_simp; rfl)); intro gb101 hg w146 hbox hb; have BK101 := Aside0.mk hbox; have GW101 := Aside0.mk ((by rw [hg]; exact (below_size bB) : w.heap.size ≤ gb101)); have GE101 := Aside0.mk ((by rw [hg]; exact (below_size bB) : w.heap.size ≤ gb101)); replace HB := aB HB hb; clear hb hbox hg) | ((with_reducible refine gate_callee (f := 25) rfl ?_); refine goesL_ (some 8) rfl rfl Try.func25 (by kernel_rfl) rfl #[] rfl bM ?_; (with_reducible refine (ferrulelaw23_awake.calls k  true _ A2.out).mono ?_); rintro e w147 ⟨rfl, hb⟩; refine ⟨_, rfl, ?_⟩; replace BK101 := aK BK101 hb; replace HB := aB HB hb; (try clear hb); (try clear hb2); (try clear hk); (try clear hi); have hcz148_0 : w147.cell? ⟨gb101, 0, none⟩ = some (.slice A0_0 l0_0.length c0_0) := (blk_cell BK101.out 0).trans rfl; have hcz148_1 : w147.cell? ⟨gb101, 1, none⟩ = some (.slice A0_1 l0_1.length c0_1) := (blk_cell BK101.out 1).trans rfl; have hfz148_0 := blk_frozen BK101.out 0; have hfz148_1 := blk_frozen BK101.out 1) | ((with_reducible refine gate_callee (f := 26) rfl ?_); refine goesL_ (some 11) rfl rfl Try.func26 (by kernel_rfl) rfl #[.agg #[.slice A0_0 l0_0.length c0_0, .slice A0_1 l0_1.length c0_1]] rfl bM ?_; (with_reducible refine (ferrulelaw23_few.calls k _ _ l0_0 _ _ l0_1 true _ ?side1 ?side2 ?side3 ?side4 A4.out).mono ?_); (case side1 => exact sW (Kd.C_below HR0_0.out HB.out)); (case side2 => exact HC0_0.out); (case side3 => exact sW (Kd.C_below HR0_1.out HB.out)); (case side4 => exact HC0_1.out); rintro e w149 ⟨rfl, hb⟩; refine ⟨_, rfl, ?_⟩; replace BK101 := aK BK101 hb; replace HB := aB HB hb; (try clear hb); (try clear hb2); (try clear hk); (try clear hi); have hcz150_0 : w149.cell? ⟨gb101, 0, none⟩ = some (.slice A0_0 l0_0.length c0_0) := (blk_cell BK101.out 0).trans rfl; have hcz150_1 : w149.cell? ⟨gb101, 1, none⟩ = some (.slice A0_1 l0_1.length c0_1) := (blk_cell BK101.out 1).trans rfl; have hfz150_0 := blk_frozen BK101.out 0; have hfz150_1 := blk_frozen BK101.out 1) | ((with_reducible refine gate_callee (f := 27) rfl ?_); refine goesL_ (some 15) rfl rfl Try.func27 (by kernel_rfl) rfl #[.agg #[.slice A0_0 l0_0.length c0_0, .slice A0_1 l0_1.length c0_1]] rfl bM ?_; (with_reducible refine (cert_Bytes.calls _ _ l0_0 _ _ l0_1 t104 t107 _ ?side1 ?side2 ?side3 ?side4 A6.out).mono ?_); (case side1 => exact sW (Kd.C_below HR0_0.out HB.out)); (case side2 => exact HC0_0.out); (case side3 => exact sW (Kd.C_below HR0_1.out HB.out)); (case side4 => exact HC0_1.out); rintro e w151 ⟨v105, rfl, ho0, hb⟩; refine ⟨_, rfl, ?_⟩; have HO106 := aL ho0 HB; replace BK101 := aK BK101 hb; replace HB := aB HB hb; (try clear hb); (try clear hb2); (try clear hk); (try clear hi); (try clear ho0)))
      replace HO106 := Aside0.mk (Kd.R_drew HO106.out)
      replace BK101 := Aside0.mk (blk_drew BK101.out)
      replace HB := Aside0.mk (below_drew1 HB.out)
      refine start_ (n := 5) (S := fun w' => w'.cell? ⟨gb101, 0, none⟩ = some (.slice A0_0 l0_0.length c0_0) ∧ w'.cell? ⟨gb101, 1, none⟩ = some (.slice A0_1 l0_1.length c0_1)) (ds := []) #[false, false, false, false, false] (by kernel_rfl) rfl rfl ⟨(blk_cell BK101.out 0).trans rfl, (blk_cell BK101.out 1).trans rfl⟩ (fun hHeld => ?_)
      generalize w151.drew = w152 at HO106 BK101 HB hHeld ⊢
      refine take_ (i := 0) (N := some 18) (v := ?_) (a' := ?_) #[true, false, false, false, false] rfl rfl (by kernel_rfl) (fun _ _ _ h => h) (Or.inl ⟨by rfl, ?_⟩) hHeld ?_ ?_
      rotate_left
      ·rintro w' ⟨s0, s1⟩
       go_simp
       with_reducible rfl
      rotate_left
      ·simp only [Act.put, List.setIfInBounds_toArray, List.set_cons_zero, List.set_cons_succ, i64_w, i32_w]
       rfl
      refine take_ (i := 2) (N := some 20) (v := ?_) (a' := ?_) #[true, false, true, false, false] rfl rfl (by kernel_rfl) (fun _ _ _ h => h) (Or.inl ⟨by rfl, ?_⟩) hHeld ?_ ?_
      rotate_left
      ·rintro w' ⟨s0, s1⟩
       go_simp
       with_reducible rfl
      rotate_left
      ·simp only [Act.put, List.setIfInBounds_toArray, List.set_cons_zero, List.set_cons_succ, i64_w, i32_w]
       rfl
      refine one_ (i := 1) (N := some 19) #[true, true, true, false, false] rfl rfl (by kernel_rfl) (by decide) (fun K hK => ?_)
      refine goes_ Try.func28 (by kernel_rfl) rfl #[.agg #[.slice A0_0 l0_0.length c0_0, .slice A0_1 l0_1.length c0_1]] (by rfl) rfl rfl bM ?_
      with_reducible refine (cert_Good.calls k _ _ l0_0 _ _ l0_1 t108 _ ?side1 ?side2 ?side3 ?side4 A7.out).mono ?_
      (case side1 => exact sW (Kd.C_below HR0_0.out HB.out))
      (case side2 => exact HC0_0.out)
      (case side3 => exact sW (Kd.C_below HR0_1.out HB.out))
      (case side4 => exact HC0_1.out)
      rintro e w153 ⟨rfl, hb⟩
      refine ⟨_, rfl, ?_⟩
      replace HO106 := aR HO106 hb
      replace BK101 := aK BK101 hb
      replace HB := aB HB hb
      (try clear hb)
      (try clear hb2)
      (try clear hk)
      (try clear hi)
      refine hK.out _ _ ⟨(blk_cell BK101.out 0).trans rfl, (blk_cell BK101.out 1).trans rfl⟩ (fun hHeld => ?_)
      clear hK K
      refine norm_ (a' := ?_) ?_ ?_
      rotate_left
      ·show Act.put _ (some 19) _ = _
       simp only [Act.put, List.setIfInBounds_toArray, List.set_cons_zero, List.set_cons_succ, i64_w, i32_w]
       rfl
      refine one_ (i := 3) (N := some 21) #[true, true, true, true, false] rfl rfl (by kernel_rfl) (by decide) (fun K hK => ?_)
      refine goes_ Try.func29 (by kernel_rfl) rfl #[.agg #[.slice A0_0 l0_0.length c0_0, .slice A0_1 l0_1.length c0_1]] (by rfl) rfl rfl bM ?_
      with_reducible refine (ferruleref23_Good.calls k _ _ l0_0 _ _ l0_1 t109 _ ?side1 ?side2 ?side3 ?side4 A8.out).mono ?_
      (case side1 => exact sW (Kd.C_below HR0_0.out HB.out))
      (case side2 => exact HC0_0.out)
      (case side3 => exact sW (Kd.C_below HR0_1.out HB.out))
      (case side4 => exact HC0_1.out)
      rintro e w154 ⟨rfl, hb⟩
      refine ⟨_, rfl, ?_⟩
      replace HO106 := aR HO106 hb
      replace BK101 := aK BK101 hb
      replace HB := aB HB hb
      (try clear hb)
      (try clear hb2)
      (try clear hk)
      (try clear hi)
      refine hK.out _ _ ⟨(blk_cell BK101.out 0).trans rfl, (blk_cell BK101.out 1).trans rfl⟩ (fun hHeld => ?_)
      clear hK K
      refine norm_ (a' := ?_) ?_ ?_
      rotate_left
      ·show Act.put _ (some 21) _ = _
       simp only [Act.put, List.setIfInBounds_toArray, List.set_cons_zero, List.set_cons_succ, i64_w, i32_w]
       rfl
      refine pure_ (i := 4) (N := some 22) (v := ?_) (a' := ?_) #[true, true, true, true, true] rfl rfl (by kernel_rfl) (fun _ _ _ h => h) (Or.inl ⟨by rfl, ?_⟩) ?_ ?_
      rotate_left
      ·intro w'
       go_simp
       with_reducible rfl
      rotate_left
      ·simp only [Act.put, List.setIfInBounds_toArray, List.set_cons_zero, List.set_cons_succ, i64_w, i32_w]
       rfl
      refine done_ (by kernel_rfl) ?_
      have hcz155_0 : w154.cell? ⟨gb101, 0, none⟩ = some (.slice A0_0 l0_0.length c0_0) := (blk_cell BK101.out 0).trans rfl
      have hcz155_1 : w154.cell? ⟨gb101, 1, none⟩ = some (.slice A0_1 l0_1.length c0_1) := (blk_cell BK101.out 1).trans rfl
      have hfz155_0 := blk_frozen BK101.out 0
      have hfz155_1 := blk_frozen BK101.out 1
      try go_wp2_with (first | ((with_reducible refine gate_callee (f := 29) rfl ?_); refine goesL_ (some 24) rfl rfl Try.func29 (by kernel_rfl) rfl #[.agg #[.slice A0_0 l0_0.length c0_0, .slice A0_1 l0_1.length c0_1]] rfl bM ?_; (with_reducible refine (ferruleref23_Good.calls k _ _ l0_0 _ _ l0_1 false _ ?side1 ?side2 ?side3 ?side4 A19.out).mono ?_); (case side1 => exact sW (Kd.C_below HR0_0.out HB.out)); (case side2 => exact HC0_0.out); (case side3 => exact sW (Kd.C_below HR0_1.out HB.out)); (case side4 => exact HC0_1.out); rintro e w156 ⟨rfl, hb⟩; refine ⟨_, rfl, ?_⟩; replace HO106 := aR HO106 hb; replace BK101 := aK BK101 hb; replace HB := aB HB hb; (try clear hb); (try clear hb2); (try clear hk); (try clear hi); obtain ⟨Ao157, co157, eo157⟩ := Kd.R_slice HO106.out; subst eo157))
      go_ret
      exact ⟨by first | rfl | (simp [errW_none, errW_some] <;> rfl) | (simp [*, errW_none, errW_some] <;> rfl), bB⟩
     ·rw [if_neg c145] at H
      have c145b0 : ((t104.length : Int) == 0) = false := beq_eq_false_iff_ne.mpr c145
      have c145b1 : ((t104.length : Int) != 0) = true := bne_iff_ne.mpr c145
      have c145b2 : ¬ (t104 = []) := fun h_ => c145 (by rw [h_]; rfl)
      obtain rfl := Option.some.inj H
      go_enter Try.func7, Try.ntmps7
      try go_wp2_with (first | ((with_reducible refine gate_dst (N := 1) rfl ?_); refine box_event ?hg (N := 1) ?hd (cs := #[.slice A0_0 l0_0.length c0_0, .slice A0_1 l0_1.length c0_1]) (t := 52) ?hr ?_; (case hd => rfl); (case hg => rfl); (case hr => first | (go_simp; done) | (go_simp; rfl)); intro gb101 hg w158 hbox hb; have BK101 := Aside0.mk hbox; have GW101 := Aside0.mk ((by rw [hg]; exact (below_size bB) : w.heap.size ≤ gb101)); have GE101 := Aside0.mk ((by rw [hg]; exact (below_size bB) : w.heap.size ≤ gb101)); replace HB := aB HB hb; clear hb hbox hg) | ((with_reducible refine gate_callee (f := 25) rfl ?_); refine goesL_ (some 8) rfl rfl Try.func25 (by kernel_rfl) rfl #[] rfl bM ?_; (with_reducible refine (ferrulelaw23_awake.calls k  true _ A2.out).mono ?_); rintro e w159 ⟨rfl, hb⟩; refine ⟨_, rfl, ?_⟩; replace BK101 := aK BK101 hb; replace HB := aB HB hb; (try clear hb); (try clear hb2); (try clear hk); (try clear hi); have hcz160_0 : w159.cell? ⟨gb101, 0, none⟩ = some (.slice A0_0 l0_0.length c0_0) := (blk_cell BK101.out 0).trans rfl; have hcz160_1 : w159.cell? ⟨gb101, 1, none⟩ = some (.slice A0_1 l0_1.length c0_1) := (blk_cell BK101.out 1).trans rfl; have hfz160_0 := blk_frozen BK101.out 0; have hfz160_1 := blk_frozen BK101.out 1) | ((with_reducible refine gate_callee (f := 26) rfl ?_); refine goesL_ (some 11) rfl rfl Try.func26 (by kernel_rfl) rfl #[.agg #[.slice A0_0 l0_0.length c0_0, .slice A0_1 l0_1.length c0_1]] rfl bM ?_; (with_reducible refine (ferrulelaw23_few.calls k _ _ l0_0 _ _ l0_1 true _ ?side1 ?side2 ?side3 ?side4 A4.out).mono ?_); (case side1 => exact sW (Kd.C_below HR0_0.out HB.out)); (case side2 => exact HC0_0.out); (case side3 => exact sW (Kd.C_below HR0_1.out HB.out)); (case side4 => exact HC0_1.out); rintro e w161 ⟨rfl, hb⟩; refine ⟨_, rfl, ?_⟩; replace BK101 := aK BK101 hb; replace HB := aB HB hb; (try clear hb); (try clear hb2); (try clear hk); (try clear hi); have hcz162_0 : w161.cell? ⟨gb101, 0, none⟩ = some (.slice A0_0 l0_0.length c0_0) := (blk_cell BK101.out 0).trans rfl; have hcz162_1 : w161.cell? ⟨gb101, 1, none⟩ = some (.slice A0_1 l0_1.length c0_1) := (blk_cell BK101.out 1).trans rfl; have hfz162_0 := blk_frozen BK101.out 0; have hfz162_1 := blk_frozen BK101.out 1) | ((with_reducible refine gate_callee (f := 27) rfl ?_); refine goesL_ (some 15) rfl rfl Try.func27 (by kernel_rfl) rfl #[.agg #[.slice A0_0 l0_0.length c0_0, .slice A0_1 l0_1.length c0_1]] rfl bM ?_; (with_reducible refine (cert_Bytes.calls _ _ l0_0 _ _ l0_1 t104 t107 _ ?side1 ?side2 ?side3 ?side4 A6.out).mono ?_); (case side1 => exact sW (Kd.C_below HR0_0.out HB.out)); (case side2 => exact HC0_0.out); (case side3 => exact sW (Kd.C_below HR0_1.out HB.out)); (case side4 => exact HC0_1.out); rintro e w163 ⟨v105, rfl, ho0, hb⟩; refine ⟨_, rfl, ?_⟩; have HO106 := aL ho0 HB; replace BK101 := aK BK101 hb; replace HB := aB HB hb; (try clear hb); (try clear hb2); (try clear hk); (try clear hi); (try clear ho0)))
      replace HO106 := Aside0.mk (Kd.R_drew HO106.out)
      replace BK101 := Aside0.mk (blk_drew BK101.out)
      replace HB := Aside0.mk (below_drew1 HB.out)
      refine start_ (n := 5) (S := fun w' => w'.cell? ⟨gb101, 0, none⟩ = some (.slice A0_0 l0_0.length c0_0) ∧ w'.cell? ⟨gb101, 1, none⟩ = some (.slice A0_1 l0_1.length c0_1)) (ds := []) #[false, false, false, false, false] (by kernel_rfl) rfl rfl ⟨(blk_cell BK101.out 0).trans rfl, (blk_cell BK101.out 1).trans rfl⟩ (fun hHeld => ?_)
      generalize w163.drew = w164 at HO106 BK101 HB hHeld ⊢
      refine take_ (i := 0) (N := some 18) (v := ?_) (a' := ?_) #[true, false, false, false, false] rfl rfl (by kernel_rfl) (fun _ _ _ h => h) (Or.inl ⟨by rfl, ?_⟩) hHeld ?_ ?_
      rotate_left
      ·rintro w' ⟨s0, s1⟩
       go_simp
       with_reducible rfl
      rotate_left
      ·simp only [Act.put, List.setIfInBounds_toArray, List.set_cons_zero, List.set_cons_succ, i64_w, i32_w]
       rfl
      refine take_ (i := 2) (N := some 20) (v := ?_) (a' := ?_) #[true, false, true, false, false] rfl rfl (by kernel_rfl) (fun _ _ _ h => h) (Or.inl ⟨by rfl, ?_⟩) hHeld ?_ ?_
      rotate_left
      ·rintro w' ⟨s0, s1⟩
       go_simp
       with_reducible rfl
      rotate_left
      ·simp only [Act.put, List.setIfInBounds_toArray, List.set_cons_zero, List.set_cons_succ, i64_w, i32_w]
       rfl
      refine one_ (i := 1) (N := some 19) #[true, true, true, false, false] rfl rfl (by kernel_rfl) (by decide) (fun K hK => ?_)
      refine goes_ Try.func28 (by kernel_rfl) rfl #[.agg #[.slice A0_0 l0_0.length c0_0, .slice A0_1 l0_1.length c0_1]] (by rfl) rfl rfl bM ?_
      with_reducible refine (cert_Good.calls k _ _ l0_0 _ _ l0_1 t108 _ ?side1 ?side2 ?side3 ?side4 A7.out).mono ?_
      (case side1 => exact sW (Kd.C_below HR0_0.out HB.out))
      (case side2 => exact HC0_0.out)
      (case side3 => exact sW (Kd.C_below HR0_1.out HB.out))
      (case side4 => exact HC0_1.out)
      rintro e w165 ⟨rfl, hb⟩
      refine ⟨_, rfl, ?_⟩
      replace HO106 := aR HO106 hb
      replace BK101 := aK BK101 hb
      replace HB := aB HB hb
      (try clear hb)
      (try clear hb2)
      (try clear hk)
      (try clear hi)
      refine hK.out _ _ ⟨(blk_cell BK101.out 0).trans rfl, (blk_cell BK101.out 1).trans rfl⟩ (fun hHeld => ?_)
      clear hK K
      refine norm_ (a' := ?_) ?_ ?_
      rotate_left
      ·show Act.put _ (some 19) _ = _
       simp only [Act.put, List.setIfInBounds_toArray, List.set_cons_zero, List.set_cons_succ, i64_w, i32_w]
       rfl
      refine one_ (i := 3) (N := some 21) #[true, true, true, true, false] rfl rfl (by kernel_rfl) (by decide) (fun K hK => ?_)
      refine goes_ Try.func29 (by kernel_rfl) rfl #[.agg #[.slice A0_0 l0_0.length c0_0, .slice A0_1 l0_1.length c0_1]] (by rfl) rfl rfl bM ?_
      with_reducible refine (ferruleref23_Good.calls k _ _ l0_0 _ _ l0_1 t109 _ ?side1 ?side2 ?side3 ?side4 A8.out).mono ?_
      (case side1 => exact sW (Kd.C_below HR0_0.out HB.out))
      (case side2 => exact HC0_0.out)
      (case side3 => exact sW (Kd.C_below HR0_1.out HB.out))
      (case side4 => exact HC0_1.out)
      rintro e w166 ⟨rfl, hb⟩
      refine ⟨_, rfl, ?_⟩
      replace HO106 := aR HO106 hb
      replace BK101 := aK BK101 hb
      replace HB := aB HB hb
      (try clear hb)
      (try clear hb2)
      (try clear hk)
      (try clear hi)
      refine hK.out _ _ ⟨(blk_cell BK101.out 0).trans rfl, (blk_cell BK101.out 1).trans rfl⟩ (fun hHeld => ?_)
      clear hK K
      refine norm_ (a' := ?_) ?_ ?_
      rotate_left
      ·show Act.put _ (some 21) _ = _
       simp only [Act.put, List.setIfInBounds_toArray, List.set_cons_zero, List.set_cons_succ, i64_w, i32_w]
       rfl
      refine pure_ (i := 4) (N := some 22) (v := ?_) (a' := ?_) #[true, true, true, true, true] rfl rfl (by kernel_rfl) (fun _ _ _ h => h) (Or.inl ⟨by rfl, ?_⟩) ?_ ?_
      rotate_left
      ·intro w'
       go_simp
       with_reducible rfl
      rotate_left
      ·simp only [Act.put, List.setIfInBounds_toArray, List.set_cons_zero, List.set_cons_succ, i64_w, i32_w]
       rfl
      refine done_ (by kernel_rfl) ?_
      have hcz167_0 : w166.cell? ⟨gb101, 0, none⟩ = some (.slice A0_0 l0_0.length c0_0) := (blk_cell BK101.out 0).trans rfl
      have hcz167_1 : w166.cell? ⟨gb101, 1, none⟩ = some (.slice A0_1 l0_1.length c0_1) := (blk_cell BK101.out 1).trans rfl
      have hfz167_0 := blk_frozen BK101.out 0
      have hfz167_1 := blk_frozen BK101.out 1
      try go_wp2_with (first | ((with_reducible refine gate_callee (f := 29) rfl ?_); refine goesL_ (some 24) rfl rfl Try.func29 (by kernel_rfl) rfl #[.agg #[.slice A0_0 l0_0.length c0_0, .slice A0_1 l0_1.length c0_1]] rfl bM ?_; (with_reducible refine (ferruleref23_Good.calls k _ _ l0_0 _ _ l0_1 false _ ?side1 ?side2 ?side3 ?side4 A19.out).mono ?_); (case side1 => exact sW (Kd.C_below HR0_0.out HB.out)); (case side2 => exact HC0_0.out); (case side3 => exact sW (Kd.C_below HR0_1.out HB.out)); (case side4 => exact HC0_1.out); rintro e w168 ⟨rfl, hb⟩; refine ⟨_, rfl, ?_⟩; replace HO106 := aR HO106 hb; replace BK101 := aK BK101 hb; replace HB := aB HB hb; (try clear hb); (try clear hb2); (try clear hk); (try clear hi); obtain ⟨Ao169, co169, eo169⟩ := Kd.R_slice HO106.out; subst eo169))
      go_ret
      exact ⟨by first | rfl | (simp [errW_none, errW_some] <;> rfl) | (simp [*, errW_none, errW_some] <;> rfl), bB⟩
  ·replace c5 := Bool.eq_false_iff.mpr c5
   subst c5
   have H1 : (some true) = some r := by rw [if_neg (show ¬ (false = true) by decide)] at H; exact H
   clear H
   have H := H1
   clear H1
   obtain rfl := Option.some.inj H
   go_enter Try.func7, Try.ntmps7
   go_wp2_with (first | ((with_reducible refine gate_dst (N := 1) rfl ?_); refine box_event ?hg (N := 1) ?hd (cs := #[.slice A0_0 l0_0.length c0_0, .slice A0_1 l0_1.length c0_1]) (t := 52) ?hr ?_; (case hd => rfl); (case hg => rfl); (case hr => first | (go_simp; done) | (go_simp; rfl)); intro gb101 hg w170 hbox hb; have BK101 := Aside0.mk hbox; have GW101 := Aside0.mk ((by rw [hg]; exact (below_size bB) : w.heap.size ≤ gb101)); have GE101 := Aside0.mk ((by rw [hg]; exact (below_size bB) : w.heap.size ≤ gb101)); replace HB := aB HB hb; clear hb hbox hg) | ((with_reducible refine gate_callee (f := 25) rfl ?_); refine goesL_ (some 8) rfl rfl Try.func25 (by kernel_rfl) rfl #[] rfl bM ?_; (with_reducible refine (ferrulelaw23_awake.calls k  true _ A2.out).mono ?_); rintro e w171 ⟨rfl, hb⟩; refine ⟨_, rfl, ?_⟩; replace BK101 := aK BK101 hb; replace HB := aB HB hb; (try clear hb); (try clear hb2); (try clear hk); (try clear hi); have hcz172_0 : w171.cell? ⟨gb101, 0, none⟩ = some (.slice A0_0 l0_0.length c0_0) := (blk_cell BK101.out 0).trans rfl; have hcz172_1 : w171.cell? ⟨gb101, 1, none⟩ = some (.slice A0_1 l0_1.length c0_1) := (blk_cell BK101.out 1).trans rfl; have hfz172_0 := blk_frozen BK101.out 0; have hfz172_1 := blk_frozen BK101.out 1) | ((with_reducible refine gate_callee (f := 26) rfl ?_); refine goesL_ (some 11) rfl rfl Try.func26 (by kernel_rfl) rfl #[.agg #[.slice A0_0 l0_0.length c0_0, .slice A0_1 l0_1.length c0_1]] rfl bM ?_; (with_reducible refine (ferrulelaw23_few.calls k _ _ l0_0 _ _ l0_1 false _ ?side1 ?side2 ?side3 ?side4 A4.out).mono ?_); (case side1 => exact sW (Kd.C_below HR0_0.out HB.out)); (case side2 => exact HC0_0.out); (case side3 => exact sW (Kd.C_below HR0_1.out HB.out)); (case side4 => exact HC0_1.out); rintro e w173 ⟨rfl, hb⟩; refine ⟨_, rfl, ?_⟩; replace BK101 := aK BK101 hb; replace HB := aB HB hb; (try clear hb); (try clear hb2); (try clear hk); (try clear hi)))
   go_ret
   exact ⟨by first | rfl | (simp [errW_none, errW_some] <;> rfl) | (simp [*, errW_none, errW_some] <;> rfl), bB⟩
 ·replace c3 := Bool.eq_false_iff.mpr c3
  subst c3
  have H1 : (some false) = some r := by rw [if_neg (show ¬ (false = true) by decide)] at H; exact H
  clear H
  have H := H1
  clear H1
  obtain rfl := Option.some.inj H
  go_enter Try.func7, Try.ntmps7
  go_wp2_with (first | ((with_reducible refine gate_dst (N := 1) rfl ?_); refine box_event ?hg (N := 1) ?hd (cs := #[.slice A0_0 l0_0.length c0_0, .slice A0_1 l0_1.length c0_1]) (t := 52) ?hr ?_; (case hd => rfl); (case hg => rfl); (case hr => first | (go_simp; done) | (go_simp; rfl)); intro gb101 hg w174 hbox hb; have BK101 := Aside0.mk hbox; have GW101 := Aside0.mk ((by rw [hg]; exact (below_size bB) : w.heap.size ≤ gb101)); have GE101 := Aside0.mk ((by rw [hg]; exact (below_size bB) : w.heap.size ≤ gb101)); replace HB := aB HB hb; clear hb hbox hg) | ((with_reducible refine gate_callee (f := 25) rfl ?_); refine goesL_ (some 8) rfl rfl Try.func25 (by kernel_rfl) rfl #[] rfl bM ?_; (with_reducible refine (ferrulelaw23_awake.calls k  false _ A2.out).mono ?_); rintro e w175 ⟨rfl, hb⟩; refine ⟨_, rfl, ?_⟩; replace BK101 := aK BK101 hb; replace HB := aB HB hb; (try clear hb); (try clear hb2); (try clear hk); (try clear hi)))
  go_ret
  exact ⟨by first | rfl | (simp [errW_none, errW_some] <;> rfl) | (simp [*, errW_none, errW_some] <;> rfl), bB⟩

def ferrulelaw23_CertTexts.Pure : Prop := ∀ (l0_0 : List Int) (l0_1 : List (S95)), (fun l : (List Int) => l.length ≤ maxLen ∧ ∀ x ∈ l, (fun x : Int => (Lit.int .i64 x).wf = true) x) l0_0 → (fun l : (List S95) => l.length ≤ maxLen ∧ ∀ x ∈ l, v95 x) l0_1 → ∃ k, ferrulelaw23_CertTexts.f k l0_0 l0_1 = some true

end Go.Proofs.Ytcebjhbphcoboaa.C
