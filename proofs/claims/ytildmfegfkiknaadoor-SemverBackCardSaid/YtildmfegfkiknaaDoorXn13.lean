-- Written by a program of this session (wip/xp), out of the translation. Not trusted: Lean checks it.
import Derived.Test.YtildmfegfkiknaaDoorTab
import Derived.Test.YtildmfegfkiknaaDoorX0
import Derived.Test.YtildmfegfkiknaaDoorXn35
import Derived.Test.YtildmfegfkiknaaDoorXn32
import Derived.Test.YtildmfegfkiknaaDoorXn37
import Derived.Test.YtildmfegfkiknaaDoorXn44
import Derived.Test.YtildmfegfkiknaaDoorXn45
-- shrunk
namespace Go.Proofs.YtildmfegfkiknaaDoor.X
open Go.RowKit Go.Proofs.YtildmfegfkiknaaDoorW.PrintWords Go.Proofs.YtildmfegfkiknaaDoorW.PrintLast Go.Proofs.YtildmfegfkiknaaDoorW.PrintMore
attribute [local go_sem] Lab.str_gtr Lab.str_leq Lab.str_geq max2_int min2_int max_two min_two max_three min_three max_four min_four   -- for this text's walks alone
set_option linter.unusedVariables false
set_option linter.unusedSimpArgs false

/-! ### ferrulelaw03_SemverBack: function 13 -/
def ferrulelaw03_SemverBack.f (k : Nat) (a0 : ByteArray) : Option (Bool) := (ferrulelaw03_awake.f k).bind fun t101 => (if t101 = true then (if (a0.size : Int) > 600 then (some true) else ((semver_Read.f k a0).bind fun bt102 => (if bt102.2.2.2.2.2.2 = 0 then ((semver_Good.f k bt102.1 bt102.2.1 bt102.2.2.1 bt102.2.2.2.1 bt102.2.2.2.2.1).bind fun t114 => (if t114 = true then ((semver_Text.f bt102.1 bt102.2.1 bt102.2.2.1 bt102.2.2.2.1 bt102.2.2.2.2.1).bind fun t115 => (some (t115.toList == a0.toList))) else (some false))) else ((semver_Same.f k bt102.1 bt102.2.1 bt102.2.2.1 bt102.2.2.2.1 bt102.2.2.2.2.1 0 0 0 ([] : List ByteArray) ([] : List ByteArray)).bind fun t116 => (some t116))))) else (some false))
theorem ferrulelaw03_SemverBack.mono : ∀ a0 k, LeO (ferrulelaw03_SemverBack.f k a0) (ferrulelaw03_SemverBack.f (k + 1) a0) := by
 intro a0 k
 unfold ferrulelaw03_SemverBack.f
 repeat' first
   | (with_reducible exact ferrulelaw03_awake.mono _)
   | (with_reducible exact semver_Good.mono _ _ _ _ _ _)
   | (with_reducible exact semver_Read.mono _ _)
   | (with_reducible exact semver_Same.mono _ _ _ _ _ _ _ _ _ _ _)
   | (with_reducible exact LeO.refl _)
   | (with_reducible exact LeO.none _)
   | (with_reducible refine LeO.ite ?_ ?_)
   | (with_reducible refine LeO.bind ?_ (fun _ => ?_))
   | exact ferrulelaw03_awake.mono _
   | exact semver_Good.mono _ _ _ _ _ _
   | exact semver_Read.mono _ _
   | exact semver_Same.mono _ _ _ _ _ _ _ _ _ _ _
   | exact LeO.none _
   | refine LeO.ite ?_ ?_
   | refine LeO.bind ?_ (fun _ => ?_)
set_option maxHeartbeats 8000000 in
set_option maxRecDepth 100000 in
theorem ferrulelaw03_SemverBack.calls (k : Nat) (a0 : ByteArray) (r : Bool) (w : World) (h : ferrulelaw03_SemverBack.f k a0 = some r) (TT : Tab w) :
  Calls Tryd.prog 13 #[.string a0] w fun e w' => e = .returned (.bool r) ∧ Below w.heap.size w w' := by
 have hu40 := Tryd.underlying40
 have HB := Aside0.mk (Below.refl w.heap.size w)
 have H : ((ferrulelaw03_awake.f k).bind fun t101 => (if t101 = true then (if (a0.size : Int) > 600 then (some true) else ((semver_Read.f k a0).bind fun bt102 => (if bt102.2.2.2.2.2.2 = 0 then ((semver_Good.f k bt102.1 bt102.2.1 bt102.2.2.1 bt102.2.2.2.1 bt102.2.2.2.2.1).bind fun t114 => (if t114 = true then ((semver_Text.f bt102.1 bt102.2.1 bt102.2.2.1 bt102.2.2.2.1 bt102.2.2.2.2.1).bind fun t115 => (some (t115.toList == a0.toList))) else (some false))) else ((semver_Same.f k bt102.1 bt102.2.1 bt102.2.2.1 bt102.2.2.2.1 bt102.2.2.2.2.1 0 0 0 ([] : List ByteArray) ([] : List ByteArray)).bind fun t116 => (some t116))))) else (some false))) = some r := h
 clear h
 replace H := Option.bind_eq_some_iff.mp H
 obtain ⟨t101, A20, H⟩ := H
 replace H : (if t101 = true then (if (a0.size : Int) > 600 then (some true) else ((semver_Read.f k a0).bind fun bt102 => (if bt102.2.2.2.2.2.2 = 0 then ((semver_Good.f k bt102.1 bt102.2.1 bt102.2.2.1 bt102.2.2.2.1 bt102.2.2.2.2.1).bind fun t114 => (if t114 = true then ((semver_Text.f bt102.1 bt102.2.1 bt102.2.2.1 bt102.2.2.2.1 bt102.2.2.2.2.1).bind fun t115 => (some (t115.toList == a0.toList))) else (some false))) else ((semver_Same.f k bt102.1 bt102.2.1 bt102.2.2.1 bt102.2.2.2.1 bt102.2.2.2.2.1 0 0 0 ([] : List ByteArray) ([] : List ByteArray)).bind fun t116 => (some t116))))) else (some false)) = some r := H
 have A2 := Aside0.mk A20
 clear A20
 by_cases c3 : t101 = true
 ·subst c3
  have H1 : (if (a0.size : Int) > 600 then (some true) else ((semver_Read.f k a0).bind fun bt102 => (if bt102.2.2.2.2.2.2 = 0 then ((semver_Good.f k bt102.1 bt102.2.1 bt102.2.2.1 bt102.2.2.2.1 bt102.2.2.2.2.1).bind fun t114 => (if t114 = true then ((semver_Text.f bt102.1 bt102.2.1 bt102.2.2.1 bt102.2.2.2.1 bt102.2.2.2.2.1).bind fun t115 => (some (t115.toList == a0.toList))) else (some false))) else ((semver_Same.f k bt102.1 bt102.2.1 bt102.2.2.1 bt102.2.2.2.1 bt102.2.2.2.2.1 0 0 0 ([] : List ByteArray) ([] : List ByteArray)).bind fun t116 => (some t116))))) = some r := by rw [if_pos rfl] at H; exact H
  clear H
  have H := H1
  clear H1
  by_cases c4 : (a0.size : Int) > 600
  ·rw [if_pos c4] at H
   have c4b0 : decide (600 < (a0.size : Int)) = true := decide_eq_true c4
   have c4b1 : decide (600 < a0.size) = true := decide_eq_true (by omega)
   clear c4
   obtain rfl := Option.some.inj H
   go_enter Tryd.func13, Tryd.ntmps13
   go_wp2_with (first | ((with_reducible refine gate_callee (f := 32) rfl ?_); refine goesL_ (some 6) rfl rfl Tryd.func32 (by kernel_rfl) rfl #[] rfl bM ?_; (with_reducible refine (ferrulelaw03_awake.calls k  true _ A2.out).mono ?_); rintro e w5 ⟨rfl, hb⟩; refine ⟨_, rfl, ?_⟩; replace HB := aB HB hb; (try clear hb); (try clear hb2); (try clear hk); (try clear hi)))
   go_ret
   exact ⟨by first | rfl | (simp [errW_none, errW_some] <;> rfl) | (simp [*, errW_none, errW_some] <;> rfl), bB⟩
  ·rw [if_neg c4] at H
   have c4b0 : decide (600 < (a0.size : Int)) = false := decide_eq_false c4
   have c4b1 : decide (600 < a0.size) = false := decide_eq_false (by omega)
   clear c4
   replace H := Option.bind_eq_some_iff.mp H
   obtain ⟨⟨t102, t103, t104, t105, t108, t111, t112⟩, A60, H⟩ := H
   replace H : (if t112 = 0 then ((semver_Good.f k t102 t103 t104 t105 t108).bind fun t114 => (if t114 = true then ((semver_Text.f t102 t103 t104 t105 t108).bind fun t115 => (some (t115.toList == a0.toList))) else (some false))) else ((semver_Same.f k t102 t103 t104 t105 t108 0 0 0 ([] : List ByteArray) ([] : List ByteArray)).bind fun t116 => (some t116))) = some r := H
   have A6 := Aside0.mk A60
   clear A60
   by_cases c7 : t112 = 0
   ·rw [if_pos c7] at H
    have c7b0 : (t112 == 0) = true := beq_iff_eq.mpr c7
    have c7b1 : (t112 != 0) = false := bne_eq_false_iff_eq.mpr c7
    clear c7
    replace H := Option.bind_eq_some_iff.mp H
    obtain ⟨t114, A80, H⟩ := H
    replace H : (if t114 = true then ((semver_Text.f t102 t103 t104 t105 t108).bind fun t115 => (some (t115.toList == a0.toList))) else (some false)) = some r := H
    have A8 := Aside0.mk A80
    clear A80
    by_cases c9 : t114 = true
    ·subst c9
     have H1 : ((semver_Text.f t102 t103 t104 t105 t108).bind fun t115 => (some (t115.toList == a0.toList))) = some r := by rw [if_pos rfl] at H; exact H
     clear H
     have H := H1
     clear H1
     replace H := Option.bind_eq_some_iff.mp H
     obtain ⟨t115, A100, H⟩ := H
     replace H : (some (t115.toList == a0.toList)) = some r := H
     have A10 := Aside0.mk A100
     clear A100
     obtain rfl := Option.some.inj H
     go_enter Tryd.func13, Tryd.ntmps13
     go_wp2_with (first | ((with_reducible refine gate_callee (f := 32) rfl ?_); refine goesL_ (some 6) rfl rfl Tryd.func32 (by kernel_rfl) rfl #[] rfl bM ?_; (with_reducible refine (ferrulelaw03_awake.calls k  true _ A2.out).mono ?_); rintro e w11 ⟨rfl, hb⟩; refine ⟨_, rfl, ?_⟩; replace HB := aB HB hb; (try clear hb); (try clear hb2); (try clear hk); (try clear hi)) | ((with_reducible refine gate_callee (f := 35) rfl ?_); refine goesL_ (some 13) rfl rfl Tryd.func35 (by kernel_rfl) rfl #[.string a0] rfl bM ?_; (with_reducible refine (semver_Read.calls k a0 t102 t103 t104 t105 t108 t111 t112 _ A6.out).mono ?_); rintro e w12 ⟨v106, v109, rfl, ho0, ho1, hb⟩; refine ⟨_, rfl, ?_⟩; have HO107 := aL ho0 HB; have HO110 := aL ho1 HB; replace HB := aB HB hb; (try clear hb); (try clear hb2); (try clear hk); (try clear hi); (try clear ho0); (try clear ho1)) | ((with_reducible refine gate_dst (N := 3) rfl ?_); refine box_event ?hg (N := 3) ?hd (cs := #[.int .u64 0, .int .u64 0, .int .u64 0, .slice none 0 0, .slice none 0 0]) (t := 40) ?hr ?_; (case hd => rfl); (case hg => rfl); (case hr => first | (go_simp; done) | (go_simp; rfl)); intro gb113 hg w13 hbox hb; replace HO107 := aR HO107 hb; replace HO110 := aR HO110 hb; have BK113 := Aside0.mk hbox; have GW113 := Aside0.mk ((by rw [hg]; exact (below_size bB) : w.heap.size ≤ gb113)); have GE113 := Aside0.mk ((by rw [hg]; exact (below_size bB) : w.heap.size ≤ gb113)); replace HB := aB HB hb; clear hb hbox hg; have hcz14_0 : w13.cell? ⟨gb113, 0, none⟩ = some (.int .u64 0) := (blk_cell BK113.out 0).trans rfl; have hcz14_1 : w13.cell? ⟨gb113, 1, none⟩ = some (.int .u64 0) := (blk_cell BK113.out 1).trans rfl; have hcz14_2 : w13.cell? ⟨gb113, 2, none⟩ = some (.int .u64 0) := (blk_cell BK113.out 2).trans rfl; have hcz14_3 : w13.cell? ⟨gb113, 3, none⟩ = some (.slice none 0 0) := (blk_cell BK113.out 3).trans rfl; have hcz14_4 : w13.cell? ⟨gb113, 4, none⟩ = some (.slice none 0 0) := (blk_cell BK113.out 4).trans rfl; have hfz14_0 := blk_frozen BK113.out 0; have hfz14_1 := blk_frozen BK113.out 1; have hfz14_2 := blk_frozen BK113.out 2; have hfz14_3 := blk_frozen BK113.out 3; have hfz14_4 := blk_frozen BK113.out 4; obtain ⟨Ao15, co15, eo15⟩ := Kd.R_slice HO107.out; subst eo15; obtain ⟨Ao16, co16, eo16⟩ := Kd.R_slice HO110.out; subst eo16) | ((with_reducible refine gate_callee (f := 45) rfl ?_); refine goesL_ (some 23) rfl rfl Tryd.func45 (by kernel_rfl) rfl #[.agg #[.int .u64 t102, .int .u64 t103, .int .u64 t104, .slice Ao15 t105.length co15, .slice Ao16 t108.length co16]] rfl bM ?_; (with_reducible refine (semver_Good.calls k t102 t103 t104 _ _ t105 _ _ t108 true _ ?side1 ?side2 ?side3 ?side4 A8.out).mono ?_); (case side1 => refine (Kd.R_reads' (e := 9) (base := w.heap.size) (ok := fun k_ => some k_ ≠ ob Ao16 t108 co16) (n := t105.length) (c := co15) ?_).2.2; exact (aS HO107 BK113)); (case side2 => exact (Kd.R_reads' HO107.out).2.1); (case side3 => refine (Kd.R_reads' (e := 9) (base := w.heap.size) (ok := fun k_ => some k_ ≠ ob Ao15 t105 co15) (n := t108.length) (c := co16) ?_).2.2; exact (aS HO110 BK113)); (case side4 => exact (Kd.R_reads' HO110.out).2.1); rintro e w17 ⟨rfl, hb⟩; refine ⟨_, rfl, ?_⟩; replace HO107 := Aside0.mk (Kd.R_below (aS HO107 BK113) hb); replace HO110 := Aside0.mk (Kd.R_below (aS HO110 BK113) hb); replace BK113 := Aside0.mk (blk_below (g := gb113) (o := .cells #[.int .u64 t102, .int .u64 t103, .int .u64 t104, .slice Ao15 t105.length co15, .slice Ao16 t108.length co16] 40 (0, 0)) (by (with_reducible repeat (first | refine blk_drewN ?_ _ | refine blk_drew ?_ | refine blk_alloc ?_ _)); refine blk_put (cs := #[.int .u64 t102, .int .u64 t103, .int .u64 t104, .slice Ao15 t105.length co15, .slice none 0 0]) ?_ 4 _ rfl; (with_reducible repeat (first | refine blk_drewN ?_ _ | refine blk_drew ?_ | refine blk_alloc ?_ _)); refine blk_put (cs := #[.int .u64 t102, .int .u64 t103, .int .u64 t104, .slice none 0 0, .slice none 0 0]) ?_ 3 _ rfl; (with_reducible repeat (first | refine blk_drewN ?_ _ | refine blk_drew ?_ | refine blk_alloc ?_ _)); refine blk_put (cs := #[.int .u64 t102, .int .u64 t103, .int .u64 0, .slice none 0 0, .slice none 0 0]) ?_ 2 _ rfl; (with_reducible repeat (first | refine blk_drewN ?_ _ | refine blk_drew ?_ | refine blk_alloc ?_ _)); refine blk_put (cs := #[.int .u64 t102, .int .u64 0, .int .u64 0, .slice none 0 0, .slice none 0 0]) ?_ 1 _ rfl; (with_reducible repeat (first | refine blk_drewN ?_ _ | refine blk_drew ?_ | refine blk_alloc ?_ _)); refine blk_put (cs := #[.int .u64 0, .int .u64 0, .int .u64 0, .slice none 0 0, .slice none 0 0]) ?_ 0 _ rfl; (with_reducible repeat (first | refine blk_drewN ?_ _ | refine blk_drew ?_ | refine blk_alloc ?_ _)); exact BK113.out) hb); replace HB := aB HB hb; (try clear hb); (try clear hb2); (try clear hk); (try clear hi); have hcz18_0 : w17.cell? ⟨gb113, 0, none⟩ = some (.int .u64 t102) := (blk_cell BK113.out 0).trans rfl; have hcz18_1 : w17.cell? ⟨gb113, 1, none⟩ = some (.int .u64 t103) := (blk_cell BK113.out 1).trans rfl; have hcz18_2 : w17.cell? ⟨gb113, 2, none⟩ = some (.int .u64 t104) := (blk_cell BK113.out 2).trans rfl; have hcz18_3 : w17.cell? ⟨gb113, 3, none⟩ = some (.slice Ao15 t105.length co15) := (blk_cell BK113.out 3).trans rfl; have hcz18_4 : w17.cell? ⟨gb113, 4, none⟩ = some (.slice Ao16 t108.length co16) := (blk_cell BK113.out 4).trans rfl; have hfz18_0 := blk_frozen BK113.out 0; have hfz18_1 := blk_frozen BK113.out 1; have hfz18_2 := blk_frozen BK113.out 2; have hfz18_3 := blk_frozen BK113.out 3; have hfz18_4 := blk_frozen BK113.out 4) | (go_at_call 44; (with_reducible refine (semver_Text.calls t102 t103 t104 _ _ t105 _ _ t108 t115 _ ?side1 ?side2 ?side3 ?side4 A10.out (tB TT HB)).mono ?_); (case side1 => exact sW (Kd.R_reads' HO107.out).2.2); (case side2 => exact (Kd.R_reads' HO107.out).2.1); (case side3 => exact sW (Kd.R_reads' HO110.out).2.2); (case side4 => exact (Kd.R_reads' HO110.out).2.1); rintro e w19 ⟨rfl, hb⟩; replace HO107 := aR HO107 hb; replace HO110 := aR HO110 hb; replace BK113 := aK BK113 hb; replace HB := aB HB hb; (try clear hb); (try clear hb2); (try clear hk); (try clear hi)))
     go_ret
     exact ⟨by first | rfl | (simp [errW_none, errW_some] <;> rfl) | (simp [*, errW_none, errW_some] <;> rfl), bB⟩
    ·replace c9 := Bool.eq_false_iff.mpr c9
     subst c9
     have H1 : (some false) = some r := by rw [if_neg (show ¬ (false = true) by decide)] at H; exact H
     clear H
     have H := H1
     clear H1
     obtain rfl := Option.some.inj H
     go_enter Tryd.func13, Tryd.ntmps13
     go_wp2_with (first | ((with_reducible refine gate_callee (f := 32) rfl ?_); refine goesL_ (some 6) rfl rfl Tryd.func32 (by kernel_rfl) rfl #[] rfl bM ?_; (with_reducible refine (ferrulelaw03_awake.calls k  true _ A2.out).mono ?_); rintro e w20 ⟨rfl, hb⟩; refine ⟨_, rfl, ?_⟩; replace HB := aB HB hb; (try clear hb); (try clear hb2); (try clear hk); (try clear hi)) | ((with_reducible refine gate_callee (f := 35) rfl ?_); refine goesL_ (some 13) rfl rfl Tryd.func35 (by kernel_rfl) rfl #[.string a0] rfl bM ?_; (with_reducible refine (semver_Read.calls k a0 t102 t103 t104 t105 t108 t111 t112 _ A6.out).mono ?_); rintro e w21 ⟨v106, v109, rfl, ho0, ho1, hb⟩; refine ⟨_, rfl, ?_⟩; have HO107 := aL ho0 HB; have HO110 := aL ho1 HB; replace HB := aB HB hb; (try clear hb); (try clear hb2); (try clear hk); (try clear hi); (try clear ho0); (try clear ho1)) | ((with_reducible refine gate_dst (N := 3) rfl ?_); refine box_event ?hg (N := 3) ?hd (cs := #[.int .u64 0, .int .u64 0, .int .u64 0, .slice none 0 0, .slice none 0 0]) (t := 40) ?hr ?_; (case hd => rfl); (case hg => rfl); (case hr => first | (go_simp; done) | (go_simp; rfl)); intro gb113 hg w22 hbox hb; replace HO107 := aR HO107 hb; replace HO110 := aR HO110 hb; have BK113 := Aside0.mk hbox; have GW113 := Aside0.mk ((by rw [hg]; exact (below_size bB) : w.heap.size ≤ gb113)); have GE113 := Aside0.mk ((by rw [hg]; exact (below_size bB) : w.heap.size ≤ gb113)); replace HB := aB HB hb; clear hb hbox hg; have hcz23_0 : w22.cell? ⟨gb113, 0, none⟩ = some (.int .u64 0) := (blk_cell BK113.out 0).trans rfl; have hcz23_1 : w22.cell? ⟨gb113, 1, none⟩ = some (.int .u64 0) := (blk_cell BK113.out 1).trans rfl; have hcz23_2 : w22.cell? ⟨gb113, 2, none⟩ = some (.int .u64 0) := (blk_cell BK113.out 2).trans rfl; have hcz23_3 : w22.cell? ⟨gb113, 3, none⟩ = some (.slice none 0 0) := (blk_cell BK113.out 3).trans rfl; have hcz23_4 : w22.cell? ⟨gb113, 4, none⟩ = some (.slice none 0 0) := (blk_cell BK113.out 4).trans rfl; have hfz23_0 := blk_frozen BK113.out 0; have hfz23_1 := blk_frozen BK113.out 1; have hfz23_2 := blk_frozen BK113.out 2; have hfz23_3 := blk_frozen BK113.out 3; have hfz23_4 := blk_frozen BK113.out 4; obtain ⟨Ao24, co24, eo24⟩ := Kd.R_slice HO107.out; subst eo24; obtain ⟨Ao25, co25, eo25⟩ := Kd.R_slice HO110.out; subst eo25) | ((with_reducible refine gate_callee (f := 45) rfl ?_); refine goesL_ (some 23) rfl rfl Tryd.func45 (by kernel_rfl) rfl #[.agg #[.int .u64 t102, .int .u64 t103, .int .u64 t104, .slice Ao24 t105.length co24, .slice Ao25 t108.length co25]] rfl bM ?_; (with_reducible refine (semver_Good.calls k t102 t103 t104 _ _ t105 _ _ t108 false _ ?side1 ?side2 ?side3 ?side4 A8.out).mono ?_); (case side1 => refine (Kd.R_reads' (e := 9) (base := w.heap.size) (ok := fun k_ => some k_ ≠ ob Ao25 t108 co25) (n := t105.length) (c := co24) ?_).2.2; exact (aS HO107 BK113)); (case side2 => exact (Kd.R_reads' HO107.out).2.1); (case side3 => refine (Kd.R_reads' (e := 9) (base := w.heap.size) (ok := fun k_ => some k_ ≠ ob Ao24 t105 co24) (n := t108.length) (c := co25) ?_).2.2; exact (aS HO110 BK113)); (case side4 => exact (Kd.R_reads' HO110.out).2.1); rintro e w26 ⟨rfl, hb⟩; refine ⟨_, rfl, ?_⟩; replace HO107 := Aside0.mk (Kd.R_below (aS HO107 BK113) hb); replace HO110 := Aside0.mk (Kd.R_below (aS HO110 BK113) hb); replace BK113 := Aside0.mk (blk_below (g := gb113) (o := .cells #[.int .u64 t102, .int .u64 t103, .int .u64 t104, .slice Ao24 t105.length co24, .slice Ao25 t108.length co25] 40 (0, 0)) (by (with_reducible repeat (first | refine blk_drewN ?_ _ | refine blk_drew ?_ | refine blk_alloc ?_ _)); refine blk_put (cs := #[.int .u64 t102, .int .u64 t103, .int .u64 t104, .slice Ao24 t105.length co24, .slice none 0 0]) ?_ 4 _ rfl; (with_reducible repeat (first | refine blk_drewN ?_ _ | refine blk_drew ?_ | refine blk_alloc ?_ _)); refine blk_put (cs := #[.int .u64 t102, .int .u64 t103, .int .u64 t104, .slice none 0 0, .slice none 0 0]) ?_ 3 _ rfl; (with_reducible repeat (first | refine blk_drewN ?_ _ | refine blk_drew ?_ | refine blk_alloc ?_ _)); refine blk_put (cs := #[.int .u64 t102, .int .u64 t103, .int .u64 0, .slice none 0 0, .slice none 0 0]) ?_ 2 _ rfl; (with_reducible repeat (first | refine blk_drewN ?_ _ | refine blk_drew ?_ | refine blk_alloc ?_ _)); refine blk_put (cs := #[.int .u64 t102, .int .u64 0, .int .u64 0, .slice none 0 0, .slice none 0 0]) ?_ 1 _ rfl; (with_reducible repeat (first | refine blk_drewN ?_ _ | refine blk_drew ?_ | refine blk_alloc ?_ _)); refine blk_put (cs := #[.int .u64 0, .int .u64 0, .int .u64 0, .slice none 0 0, .slice none 0 0]) ?_ 0 _ rfl; (with_reducible repeat (first | refine blk_drewN ?_ _ | refine blk_drew ?_ | refine blk_alloc ?_ _)); exact BK113.out) hb); replace HB := aB HB hb; (try clear hb); (try clear hb2); (try clear hk); (try clear hi)))
     go_ret
     exact ⟨by first | rfl | (simp [errW_none, errW_some] <;> rfl) | (simp [*, errW_none, errW_some] <;> rfl), bB⟩
   ·rw [if_neg c7] at H
    have c7b0 : (t112 == 0) = false := beq_eq_false_iff_ne.mpr c7
    have c7b1 : (t112 != 0) = true := bne_iff_ne.mpr c7
    replace H := Option.bind_eq_some_iff.mp H
    obtain ⟨t116, A270, H⟩ := H
    replace H : (some t116) = some r := H
    have A27 := Aside0.mk A270
    clear A270
    obtain rfl := Option.some.inj H
    go_enter Tryd.func13, Tryd.ntmps13
    go_wp2_with (first | ((with_reducible refine gate_callee (f := 32) rfl ?_); refine goesL_ (some 6) rfl rfl Tryd.func32 (by kernel_rfl) rfl #[] rfl bM ?_; (with_reducible refine (ferrulelaw03_awake.calls k  true _ A2.out).mono ?_); rintro e w28 ⟨rfl, hb⟩; refine ⟨_, rfl, ?_⟩; replace HB := aB HB hb; (try clear hb); (try clear hb2); (try clear hk); (try clear hi)) | ((with_reducible refine gate_callee (f := 35) rfl ?_); refine goesL_ (some 13) rfl rfl Tryd.func35 (by kernel_rfl) rfl #[.string a0] rfl bM ?_; (with_reducible refine (semver_Read.calls k a0 t102 t103 t104 t105 t108 t111 t112 _ A6.out).mono ?_); rintro e w29 ⟨v106, v109, rfl, ho0, ho1, hb⟩; refine ⟨_, rfl, ?_⟩; have HO107 := aL ho0 HB; have HO110 := aL ho1 HB; replace HB := aB HB hb; (try clear hb); (try clear hb2); (try clear hk); (try clear hi); (try clear ho0); (try clear ho1)) | ((with_reducible refine gate_dst (N := 3) rfl ?_); refine box_event ?hg (N := 3) ?hd (cs := #[.int .u64 0, .int .u64 0, .int .u64 0, .slice none 0 0, .slice none 0 0]) (t := 40) ?hr ?_; (case hd => rfl); (case hg => rfl); (case hr => first | (go_simp; done) | (go_simp; rfl)); intro gb113 hg w30 hbox hb; replace HO107 := aR HO107 hb; replace HO110 := aR HO110 hb; have BK113 := Aside0.mk hbox; have GW113 := Aside0.mk ((by rw [hg]; exact (below_size bB) : w.heap.size ≤ gb113)); have GE113 := Aside0.mk ((by rw [hg]; exact (below_size bB) : w.heap.size ≤ gb113)); replace HB := aB HB hb; clear hb hbox hg; have hcz31_0 : w30.cell? ⟨gb113, 0, none⟩ = some (.int .u64 0) := (blk_cell BK113.out 0).trans rfl; have hcz31_1 : w30.cell? ⟨gb113, 1, none⟩ = some (.int .u64 0) := (blk_cell BK113.out 1).trans rfl; have hcz31_2 : w30.cell? ⟨gb113, 2, none⟩ = some (.int .u64 0) := (blk_cell BK113.out 2).trans rfl; have hcz31_3 : w30.cell? ⟨gb113, 3, none⟩ = some (.slice none 0 0) := (blk_cell BK113.out 3).trans rfl; have hcz31_4 : w30.cell? ⟨gb113, 4, none⟩ = some (.slice none 0 0) := (blk_cell BK113.out 4).trans rfl; have hfz31_0 := blk_frozen BK113.out 0; have hfz31_1 := blk_frozen BK113.out 1; have hfz31_2 := blk_frozen BK113.out 2; have hfz31_3 := blk_frozen BK113.out 3; have hfz31_4 := blk_frozen BK113.out 4; obtain ⟨Ao32, co32, eo32⟩ := Kd.R_slice HO107.out; subst eo32; obtain ⟨Ao33, co33, eo33⟩ := Kd.R_slice HO110.out; subst eo33) | ((with_reducible refine gate_callee (f := 37) rfl ?_); refine goesL_ (some 21) rfl rfl Tryd.func37 (by kernel_rfl) rfl #[.agg #[.int .u64 t102, .int .u64 t103, .int .u64 t104, .slice Ao32 t105.length co32, .slice Ao33 t108.length co33], .agg #[.int .u64 0, .int .u64 0, .int .u64 0, .slice none 0 0, .slice none 0 0]] rfl bM ?_; (refine (semver_Same.calls k t102 t103 t104 _ _ t105 _ _ t108 0 0 0 _ _ ([] : List ByteArray) _ _ ([] : List ByteArray) t116 _ ?side1 ?side2 ?side3 ?side4 ?side5 ?side6 ?side7 ?side8 A27.out).mono ?_); (case side1 => refine (Kd.R_reads' (e := 9) (base := w.heap.size) (ok := fun k_ => some k_ ≠ ob Ao33 t108 co33) (n := t105.length) (c := co32) ?_).2.2; exact (aS HO107 BK113)); (case side2 => exact (Kd.R_reads' HO107.out).2.1); (case side3 => refine (Kd.R_reads' (e := 9) (base := w.heap.size) (ok := fun k_ => some k_ ≠ ob Ao32 t105 co32) (n := t108.length) (c := co33) ?_).2.2; exact (aS HO110 BK113)); (case side4 => exact (Kd.R_reads' HO110.out).2.1); (case side5 => exact Kd.C_nil _ _); (case side6 => exact Nat.le_refl _); (case side7 => exact Kd.C_nil _ _); (case side8 => exact Nat.le_refl _); rintro e w34 ⟨rfl, hb⟩; refine ⟨_, rfl, ?_⟩; replace HO107 := Aside0.mk (Kd.R_below (aS HO107 BK113) hb); replace HO110 := Aside0.mk (Kd.R_below (aS HO110 BK113) hb); replace BK113 := Aside0.mk (blk_below (g := gb113) (o := .cells #[.int .u64 t102, .int .u64 t103, .int .u64 t104, .slice Ao32 t105.length co32, .slice Ao33 t108.length co33] 40 (0, 0)) (by (with_reducible repeat (first | refine blk_drewN ?_ _ | refine blk_drew ?_ | refine blk_alloc ?_ _)); refine blk_put (cs := #[.int .u64 t102, .int .u64 t103, .int .u64 t104, .slice Ao32 t105.length co32, .slice none 0 0]) ?_ 4 _ rfl; (with_reducible repeat (first | refine blk_drewN ?_ _ | refine blk_drew ?_ | refine blk_alloc ?_ _)); refine blk_put (cs := #[.int .u64 t102, .int .u64 t103, .int .u64 t104, .slice none 0 0, .slice none 0 0]) ?_ 3 _ rfl; (with_reducible repeat (first | refine blk_drewN ?_ _ | refine blk_drew ?_ | refine blk_alloc ?_ _)); refine blk_put (cs := #[.int .u64 t102, .int .u64 t103, .int .u64 0, .slice none 0 0, .slice none 0 0]) ?_ 2 _ rfl; (with_reducible repeat (first | refine blk_drewN ?_ _ | refine blk_drew ?_ | refine blk_alloc ?_ _)); refine blk_put (cs := #[.int .u64 t102, .int .u64 0, .int .u64 0, .slice none 0 0, .slice none 0 0]) ?_ 1 _ rfl; (with_reducible repeat (first | refine blk_drewN ?_ _ | refine blk_drew ?_ | refine blk_alloc ?_ _)); refine blk_put (cs := #[.int .u64 0, .int .u64 0, .int .u64 0, .slice none 0 0, .slice none 0 0]) ?_ 0 _ rfl; (with_reducible repeat (first | refine blk_drewN ?_ _ | refine blk_drew ?_ | refine blk_alloc ?_ _)); exact BK113.out) hb); replace HB := aB HB hb; (try clear hb); (try clear hb2); (try clear hk); (try clear hi)))
    go_ret
    exact ⟨by first | rfl | (simp [errW_none, errW_some] <;> rfl) | (simp [*, errW_none, errW_some] <;> rfl), bB⟩
 ·replace c3 := Bool.eq_false_iff.mpr c3
  subst c3
  have H1 : (some false) = some r := by rw [if_neg (show ¬ (false = true) by decide)] at H; exact H
  clear H
  have H := H1
  clear H1
  obtain rfl := Option.some.inj H
  go_enter Tryd.func13, Tryd.ntmps13
  go_wp2_with (first | ((with_reducible refine gate_callee (f := 32) rfl ?_); refine goesL_ (some 6) rfl rfl Tryd.func32 (by kernel_rfl) rfl #[] rfl bM ?_; (with_reducible refine (ferrulelaw03_awake.calls k  false _ A2.out).mono ?_); rintro e w35 ⟨rfl, hb⟩; refine ⟨_, rfl, ?_⟩; replace HB := aB HB hb; (try clear hb); (try clear hb2); (try clear hk); (try clear hi)))
  go_ret
  exact ⟨by first | rfl | (simp [errW_none, errW_some] <;> rfl) | (simp [*, errW_none, errW_some] <;> rfl), bB⟩

def ferrulelaw03_SemverBack.Pure : Prop := ∀ (a0 : ByteArray), a0.size ≤ 140737488351232 → ∃ k, ferrulelaw03_SemverBack.f k a0 = some true

end Go.Proofs.YtildmfegfkiknaaDoor.X
