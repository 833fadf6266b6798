/- The document's assertion (ferruleref15.Assert): its literals then, a conflict, an error's number. A walk by hand. -/
import Derived.Test.YtcebjhbphcoboaaQu
import Derived.Test.YtcebjhbphcoboaaApx
namespace Go.Proofs.Ytcebjhbphcoboaa.Ato
open Go Go.RowKit Go.Proofs.Ytcebjhbphcoboaa.X Go.Proofs.Ytcebjhbphcoboaa.Hlp Go.Proofs.YtcebjhbphcoboaaW.PrintWords Go.Proofs.YtcebjhbphcoboaaW.PrintLast Go.Proofs.YtcebjhbphcoboaaW.PrintMore Go.Proofs.Ytcebjhbphcoboaa.Aid Go.Proofs.Ytcebjhbphcoboaa.Clean12
attribute [local go_sem] max2_int min2_int max_two min_two
set_option linter.unusedVariables false
set_option linter.unusedSimpArgs false
theorem news_of_C {W : World} {A : Option Addr} {L : List Int} (h : Kd.C (Kd.int .i64) W A L.length L) : (A = none → L.length = 0) ∧ ∀ a, A = some a → ∀ j u, (ints L)[j]? = some u → W.cell? (a.add j) = some u := by
  refine ⟨fun hA => ?_, fun a ha j u hu => ?_⟩
  · rcases Nat.eq_zero_or_pos L.length with e | e
    · exact e
    · obtain ⟨ad, e2, _⟩ := Kd.at_int h 0 (by omega) (by omega)
      rw [hA] at e2; cases e2
  · unfold ints at hu
    rw [List.getElem?_map] at hu
    cases hj : L[j]? with
    | none => rw [hj] at hu; cases hu
    | some x =>
      have hlt := (List.getElem?_eq_some_iff.mp hj).1
      rw [hj] at hu
      obtain ⟨ad, e2, hcell⟩ := Kd.at_int h (j : Int) (by omega) (by omega)
      rw [ha] at e2
      obtain rfl := Option.some.inj e2
      rw [Int.toNat_natCast, show rd L (j : Int) = x from by rw [rd_of (by omega) (by omega)]; simpa using (List.getElem?_eq_some_iff.mp hj).2] at hcell
      obtain rfl := Option.some.inj hu
      exact hcell
theorem ints_one (L : List Int) : ∀ u ∈ ints L, u.oneCell' = true := fun u hu => by
  obtain ⟨x, _, rfl⟩ := List.mem_map.mp hu
  rfl
section
variable {A0 : Option Addr} {c0 : Nat} {l : List Int} {w : World} (hr0 : Kd.C (Kd.int .i64) w A0 l.length l) (hc0 : l.length ≤ c0) (hs : Szs l)
include hr0 hc0 hs
theorem refAtom_calls (x : Int) : Calls Try.prog 82 #[.slice A0 l.length c0, .int .i64 x] w fun e w' => e = .returned (.tuple #[.agg #[.int .i64 (litA l x).f0, .int .i64 (litA l x).f1, .int .i64 (litA l x).f2], .bool (litOk l x)]) ∧ Below w.heap.size w w' := by
  obtain ⟨k, hk⟩ := (refAtom_ev hs x).rounds
  exact ferruleref15_Atom.calls k A0 c0 l x _ _ _ _ w hr0 hc0 hk
theorem refOf_calls (p : Int) (A1 : Option Addr) (c1 : Nat) (L : List Int) (hr1 : Kd.C (Kd.int .i64) w A1 L.length L) (hc1 : L.length ≤ c1) (hL : L.length ≤ 100000) (hm : ∀ x ∈ L, litOk l x = true) : Calls Try.prog 48 #[.slice A0 l.length c0, .int .i64 p, .slice A1 L.length c1] w fun e w' => ∃ v, e = .returned v ∧ w'.ownsRow w.heap.size 3 1 v (ofL l p L).length (ints (ofL l p L)) ∧ Below w.heap.size w w' := by
  obtain ⟨k, hk⟩ := (refOf_ev hs p L hL hm).rounds
  exact (ferruleref15_Of.calls k A0 c0 l p A1 c1 L _ w hr0 hc0 hr1 hc1 hk).mono fun e w' ⟨v, he, hR, hB⟩ => ⟨v, he, own_of_R hR, hB⟩
theorem refAllowed_calls (p : Int) (h0 : 0 ≤ p) (h1 : p < l.length) (A1 : Option Addr) (c1 : Nat) (L : List Int) (hr1 : Kd.C (Kd.int .i64) w A1 L.length L) (hc1 : L.length ≤ c1) (hL : L.length ≤ 100000) : Calls Try.prog 47 #[.slice A0 l.length c0, .int .i64 p, .slice A1 L.length c1] w fun e w' => ∃ v, e = .returned v ∧ w'.ownsRow w.heap.size 3 1 v (alw l p L).length (ints (alw l p L)) ∧ Below w.heap.size w w' := by
  obtain ⟨k, hk⟩ := (refAllowed_ev hs p h0 h1 L hL).rounds
  exact (ferruleref15_Allowed.calls k A0 c0 l p A1 c1 L _ w hr0 hc0 hr1 hc1 hk).mono fun e w' ⟨v, he, hR, hB⟩ => ⟨v, he, own_of_R hR, hB⟩
theorem refExplained_calls (p : Int) (h0 : 0 ≤ p) (h1 : p < l.length) (keep : Nat) (hkp : keep ≤ 100000) (A1 : Option Addr) (c1 : Nat) (L : List Int) (hr1 : Kd.C (Kd.int .i64) w A1 L.length L) (hc1 : L.length ≤ c1) (hL : L.length ≤ 100000) : Calls Try.prog 85 #[.slice A0 l.length c0, .int .i64 p, .slice A1 L.length c1, .int .i64 keep] w fun e w' => ∃ v, e = .returned v ∧ w'.ownsRow w.heap.size 3 1 v (expl l p keep L).length (ints (expl l p keep L)) ∧ Below w.heap.size w w' := by
  obtain ⟨k, hk⟩ := (refExplained_ev hs p h0 h1 keep hkp L hL).rounds
  exact (ferruleref15_Explained.calls k A0 c0 l p A1 c1 L _ _ w hr0 hc0 hr1 hc1 hk).mono fun e w' ⟨v, he, hR, hB⟩ => ⟨v, he, own_of_R hR, hB⟩
end
theorem refHas_calls {A1 : Option Addr} {c1 : Nat} {L : List Int} {w : World} (hr1 : Kd.C (Kd.int .i64) w A1 L.length L) (hc1 : L.length ≤ c1) (hL : L.length ≤ 100000) (x : Int) : Calls Try.prog 83 #[.slice A1 L.length c1, .int .i64 x] w fun e w' => e = .returned (.bool (decide (x ∈ L))) ∧ Drawn0 w w' := by
  obtain ⟨k, hk⟩ := (has_ev L (by omega) x).rounds
  exact ferruleref12_Has.calls k A1 c1 L x _ w hr1 hc1 hk
theorem refNegated_calls {A1 : Option Addr} {c1 : Nat} {L : List Int} {w : World} (hr1 : Kd.C (Kd.int .i64) w A1 L.length L) (hc1 : L.length ≤ c1) (hL : L.length ≤ 100000) (hx : ∀ x ∈ L, -16777216 ≤ x ∧ x ≤ 16777216) : Calls Try.prog 84 #[.slice A1 L.length c1] w fun e w' => ∃ v, e = .returned v ∧ w'.ownsRow w.heap.size 3 1 v (negL L).length (ints (negL L)) ∧ Below w.heap.size w w' := by
  obtain ⟨k, hk⟩ := (refNegated_ev L hL hx).rounds
  exact (ferruleref15_Negated.calls k A1 c1 L _ w hr1 hc1 hk).mono fun e w' ⟨v, he, hR, hB⟩ => ⟨v, he, own_of_R hR, hB⟩
set_option maxHeartbeats 4000000 in
set_option maxRecDepth 100000 in
theorem assert15_calls {A0 : Option Addr} {c0 : Nat} {l : List Int} {A1 : Option Addr} {c1 : Nat} {L : List Int} {w : World} (hr0 : Kd.C (Kd.int .i64) w A0 l.length l) (hc0 : l.length ≤ c0) (hs : Szs l) (hr1 : Kd.C (Kd.int .i64) w A1 L.length L) (hc1 : L.length ≤ c1) (hL : L.length ≤ 100) (hm : ∀ y ∈ L, litOk l y = true) (x : Int) (hxx : -9223372036854775808 ≤ x ∧ x ≤ 9223372036854775807) :
    Calls Try.prog 43 #[.slice A0 l.length c0, .slice A1 L.length c1, .int .i64 x] w fun e w' => ∃ v0 v1, e = .returned (.tuple #[v0, v1, .int .i64 (asE l L x)]) ∧ (asE l L x ≠ 0 → v0 = .slice A1 L.length c1) ∧ (asE l L x = 0 → w'.ownsRow w.heap.size 3 1 v0 (L ++ [x]).length (ints (L ++ [x]))) ∧ w'.ownsRow w.heap.size 3 1 v1 (asC l L x).length (ints (asC l L x)) ∧ Below w.heap.size w w' := by
  obtain ⟨i0, hi, hz0, hz1, hz2⟩ := info_parts info3'
  have hlit := fun W (hb : Below w.heap.size w W) => refAtom_calls (Kd.C_below hr0 hb) hc0 hs x
  have hhas := fun (y : Int) W (hb : Below w.heap.size w W) => refHas_calls (Kd.C_below hr1 hb) hc1 (by omega) y
  have hof := fun p W (hb : Below w.heap.size w W) => refOf_calls (Kd.C_below hr0 hb) hc0 hs p A1 c1 L (Kd.C_below hr1 hb) hc1 (by omega) hm
  have hin : ∀ y ∈ L, -16777216 ≤ y ∧ y ≤ 16777216 := fun y hy => litOk_in hs.2.2 (hm y hy)
  unfold asC asE asM
  by_cases hok : litOk l x = true
  case neg =>
    rw [Bool.not_eq_true] at hok
    rw [hok] at hlit
    simp only [hok, if_true]
    generalize litA l x = A at *
    go_enter Try.func43, Try.ntmps43
    go_wp2_with (first
      | (go_at_call 82; with_reducible refine (hlit _ (Below.refl _ _)).mono ?_; rintro e w1 ⟨rfl, hB1⟩))
    go_ret3
    exact ⟨_, _, rfl, rfl, World.ownsRow_nil _ _ _ _, hB1.alloc hB1.size _⟩
  obtain ⟨hp0, hp1⟩ := litA_pack hs hok
  have hxi := litOk_in hs.2.2 hok
  have hwn : IntKind.i64.wrap (-x) = -x := by rw [IntKind.wrap_i64]; omega
  rw [hok] at hlit
  simp only [hok, Bool.true_eq_false, if_false]
  generalize litA l x = A at *
  by_cases hmx : x ∈ L
  · have hh := hhas x
    rw [decide_eq_true hmx] at hh
    simp only [hmx, if_true]
    clear hmx hof
    go_enter Try.func43, Try.ntmps43
    go_wp2_with (first
      | (go_at_call 82; with_reducible refine (hlit _ (Below.refl _ _)).mono ?_; rintro e w1 ⟨rfl, hB1⟩; have hBV : Below w.heap.size w (w1.alloc (.cells #[.int .i64 A.f0, .int .i64 A.f1, .int .i64 A.f2] 111)) := hB1.alloc hB1.size _)
      | (go_at_call 83; with_reducible refine (hh _ hBV).mono ?_; rintro e w2 ⟨rfl, hD2⟩; have hBV2 := hBV.trans (hD2.below.mono hBV.size)))
    go_ret3
    exact ⟨_, _, rfl, rfl, World.ownsRow_nil _ _ _ _, hBV2⟩
  have hh := hhas x
  rw [decide_eq_false hmx] at hh
  simp only [hmx, if_false]
  clear hmx
  by_cases hmn : -x ∈ L
  · have hg := hhas (-x)
    rw [decide_eq_true hmn] at hg
    simp only [hmn, if_true]
    clear hmn hof
    go_enter Try.func43, Try.ntmps43
    go_wp2_with (first
      | (go_at_call 82; with_reducible refine (hlit _ (Below.refl _ _)).mono ?_; rintro e w1 ⟨rfl, hB1⟩; have hBV : Below w.heap.size w (w1.alloc (.cells #[.int .i64 A.f0, .int .i64 A.f1, .int .i64 A.f2] 111)) := hB1.alloc hB1.size _)
      | (go_at_call 83; with_reducible refine (hh _ hBV).mono ?_; rintro e w2 ⟨rfl, hD2⟩; have hBV2 := hBV.trans (hD2.below.mono hBV.size))
      | (go_at_call 83; with_reducible refine (hg _ hBV2).mono ?_; rintro e w3 ⟨rfl, hD3⟩; have hBV3 := hBV2.trans (hD3.below.mono hBV2.size)))
    go_ret3
    exact ⟨_, _, rfl, rfl, World.ownsRow_nil _ _ _ _, hBV3⟩
  have hg := hhas (-x)
  rw [decide_eq_false hmn] at hg
  simp only [hmn, if_false]
  clear hmn
  have hol := ofL_len l A.f1 L
  have hsubM : ∀ y ∈ ofL l A.f1 L ++ [x], -16777216 ≤ y ∧ y ≤ 16777216 := fun y hy => by
    rw [List.mem_append] at hy
    rcases hy with hy | hy
    · exact hin y (List.mem_filter.mp hy).1
    · simp at hy; omega
  have hML : (ofL l A.f1 L ++ [x]).length ≤ 101 := by rw [List.length_append, List.length_singleton]; omega
  have hal := fun W A2 c2 (hb : Below w.heap.size w W) (hC : Kd.C (Kd.int .i64) W A2 (ofL l A.f1 L ++ [x]).length (ofL l A.f1 L ++ [x])) (hc : (ofL l A.f1 L ++ [x]).length ≤ c2) => refAllowed_calls (Kd.C_below hr0 hb) hc0 hs A.f1 hp0 hp1 A2 c2 (ofL l A.f1 L ++ [x]) hC hc (by omega)
  have hof1 := hof A.f1
  have hM5 : (ofL l A.f1 L ++ [x]).length = (ofL l A.f1 L).length + 1 := by rw [List.length_append, List.length_singleton]
  by_cases he : alw l A.f1 (ofL l A.f1 L ++ [x]) = []
  · simp only [he, if_true]
    rw [he] at hal
    have hEl := expl_len l A.f1 0 ((ofL l A.f1 L ++ [x]).length + 1) (ofL l A.f1 L ++ [x]) 0
    have hEm : ∀ y ∈ expl l A.f1 0 (ofL l A.f1 L ++ [x]), -16777216 ≤ y ∧ y ≤ 16777216 := fun y hy => hsubM y (expl_mem l A.f1 0 _ _ _ y hy)
    have hEl2 : (expl l A.f1 0 (ofL l A.f1 L ++ [x])).length ≤ 101 := by unfold expl; omega
    have hex := fun W A2 c2 (hb : Below w.heap.size w W) (hC : Kd.C (Kd.int .i64) W A2 (ofL l A.f1 L ++ [x]).length (ofL l A.f1 L ++ [x])) (hc : (ofL l A.f1 L ++ [x]).length ≤ c2) => refExplained_calls (Kd.C_below hr0 hb) hc0 hs A.f1 hp0 hp1 0 (by omega) A2 c2 (ofL l A.f1 L ++ [x]) hC hc (by omega)
    have hng := fun W A2 c2 hC hc => refNegated_calls (A1 := A2) (c1 := c2) (L := expl l A.f1 0 (ofL l A.f1 L ++ [x])) (w := W) hC hc (by omega) hEm
    clear hEl hEm he
    generalize expl l A.f1 0 (ofL l A.f1 L ++ [x]) = E at *
    go_enter Try.func43, Try.ntmps43
    go_wp2_with (first
      | (go_at_call 82; with_reducible refine (hlit _ (Below.refl _ _)).mono ?_; rintro e w1 ⟨rfl, hB1⟩; have hBV : Below w.heap.size w (w1.alloc (.cells #[.int .i64 A.f0, .int .i64 A.f1, .int .i64 A.f2] 111)) := hB1.alloc hB1.size _; obtain ⟨z0, z1, z2⟩ := box_cells w1 (.int .i64 A.f0) (.int .i64 A.f1) (.int .i64 A.f2))
      | (go_at_call 83; with_reducible refine (hh _ hBV).mono ?_; rintro e w2 ⟨rfl, ⟨m2, rfl⟩⟩; have hBV2 := pw_below_drewN hBV m2)
      | (go_at_call 83; with_reducible refine (hg _ hBV2).mono ?_; rintro e w3 ⟨rfl, ⟨m3, rfl⟩⟩; have hBV3 := pw_below_drewN hBV (m2 + m3); have hVD := pw_below_drewN (Below.refl (w1.alloc (.cells #[.int .i64 A.f0, .int .i64 A.f1, .int .i64 A.f2] 111)).heap.size (w1.alloc (.cells #[.int .i64 A.f0, .int .i64 A.f1, .int .i64 A.f2] 111))) (m2 + m3))
      | (go_at_call 48; with_reducible refine (hof1 _ hBV3).mono ?_; rintro e w4 ⟨v4, rfl, hown4, hB4⟩; have hBV4 := hBV3.trans (hB4.mono hBV3.size); obtain ⟨p4, c4, rfl⟩ := Hlp.own_slice hown4; have hown4' := Hlp.own_base hown4 hBV3.size; have hx4 := blk_below (blk_new w1 (.cells #[.int .i64 A.f0, .int .i64 A.f1, .int .i64 A.f2] 111)) (hVD.trans (hB4.mono hVD.size)))
      | (at_builtin; refine wpList_append_own_at _ rfl _ _ 46 rfl w.heap.size 3 i0 (.int .i64 0) 1 8 Try.underlying46 hi hz0 hz1 hz2 rfl (by decide) _ _ _ rfl (hown4'.alloc _) ⟨w4.heap.size, 0, none⟩ 1 1 [.int .i64 x] rfl rfl (cell_one_new _ _ _) (by simp [Value.oneCell']) (by unfold maxLen; omega) (by omega) (by have := hBV4.size; simp; omega) ?_; intro v5 w5 hown5 hgrow5 hnil5 hblk5; have hx5 := blk_grown (blk_alloc hx4 (.cells #[.int .i64 x] 3)) hgrow5 (Hlp.own_ne (hown4'.alloc (.cells #[.int .i64 x] 3)) (blk_alloc hx4 (.cells #[.int .i64 x] 3)) (by simp)); have y1 := cell_far hx5 1 _ rfl; have hB5 : Below w.heap.size w w5 := (hBV4.alloc hBV4.size _).grown hgrow5 (by have := hBV4.size; simp; omega) (fun q e => (hown4'.lt _ e).1); obtain ⟨A5, c5, e5, hc5, hC5⟩ := C_of_ints (int_app hown5); subst e5; have hal5 := hal w5 A5 c5 hB5 hC5 hc5; rw [hM5] at hal5)
      | (go_at_call 47; with_reducible refine hal5.mono ?_; rintro e w6 ⟨v6, rfl, hown6, hB6⟩; have hB6w := hB5.trans (hB6.mono hB5.size); obtain ⟨p6, c6, rfl⟩ := Hlp.own_slice hown6; have hx6 := blk_below hx5 hB6; have x1 := cell_far hx6 1 _ rfl; have hC6 := Kd.C_below hC5 hB6)
      | (go_at_call 85; have hex6 := hex _ _ _ hB6w hC6 hc5; rw [hM5, show ((0 : Nat) : Int) = 0 from rfl] at hex6; with_reducible refine hex6.mono ?_; rintro e w7 ⟨v7, rfl, hown7, hB7⟩; have hB7w := hB6w.trans (hB7.mono hB6w.size); obtain ⟨A7, c7, e7, hc7, hC7⟩ := C_of_ints hown7; subst e7; have hng7 := hng w7 A7 c7 hC7 hc7)
      | (go_at_call 84; with_reducible refine hng7.mono ?_; rintro e w8 ⟨v8, rfl, hown8, hB8⟩))
    go_ret3
    exact ⟨_, _, rfl, fun _ => rfl, fun h => absurd h (by decide), Hlp.own_base hown8 hB7w.size, hB7w.trans (hB8.mono hB7w.size)⟩
  · simp only [he, if_false]
    obtain ⟨r, R, hR⟩ := List.exists_cons_of_ne_nil he
    rw [hR] at hal
    have hz : ((R.length : Int) + 1 == 0) = false := beq_eq_false_iff_ne.mpr (by omega)
    clear he hR
    have hil : (ints L).length = L.length := by simp [ints]
    have hmx : 0 + L.length ≤ maxLen := by unfold maxLen; omega
    have hby : (0 + L.length) * 8 ≤ 140737488355328 := by omega
    go_enter Try.func43, Try.ntmps43
    go_wp2_with (first
      | (go_at_call 82; with_reducible refine (hlit _ (Below.refl _ _)).mono ?_; rintro e w1 ⟨rfl, hB1⟩; have hBV : Below w.heap.size w (w1.alloc (.cells #[.int .i64 A.f0, .int .i64 A.f1, .int .i64 A.f2] 111)) := hB1.alloc hB1.size _; obtain ⟨z0, z1, z2⟩ := box_cells w1 (.int .i64 A.f0) (.int .i64 A.f1) (.int .i64 A.f2))
      | (go_at_call 83; with_reducible refine (hh _ hBV).mono ?_; rintro e w2 ⟨rfl, ⟨m2, rfl⟩⟩; have hBV2 := pw_below_drewN hBV m2)
      | (go_at_call 83; with_reducible refine (hg _ hBV2).mono ?_; rintro e w3 ⟨rfl, ⟨m3, rfl⟩⟩; have hBV3 := pw_below_drewN hBV (m2 + m3); have hVD := pw_below_drewN (Below.refl (w1.alloc (.cells #[.int .i64 A.f0, .int .i64 A.f1, .int .i64 A.f2] 111)).heap.size (w1.alloc (.cells #[.int .i64 A.f0, .int .i64 A.f1, .int .i64 A.f2] 111))) (m2 + m3))
      | (go_at_call 48; with_reducible refine (hof1 _ hBV3).mono ?_; rintro e w4 ⟨v4, rfl, hown4, hB4⟩; have hBV4 := hBV3.trans (hB4.mono hBV3.size); obtain ⟨p4, c4, rfl⟩ := Hlp.own_slice hown4; have hown4' := Hlp.own_base hown4 hBV3.size; have hx4 := blk_below (blk_new w1 (.cells #[.int .i64 A.f0, .int .i64 A.f1, .int .i64 A.f2] 111)) (hVD.trans (hB4.mono hVD.size)))
      | (at_builtin; refine wpList_append_own_at _ rfl _ _ 46 rfl w.heap.size 3 i0 (.int .i64 0) 1 8 Try.underlying46 hi hz0 hz1 hz2 rfl (by decide) _ _ _ rfl (hown4'.alloc _) ⟨w4.heap.size, 0, none⟩ 1 1 [.int .i64 x] rfl rfl (cell_one_new _ _ _) (by simp [Value.oneCell']) (by unfold maxLen; omega) (by omega) (by have := hBV4.size; simp; omega) ?_; intro v5 w5 hown5 hgrow5 hnil5 hblk5; have hx5 := blk_grown (blk_alloc hx4 (.cells #[.int .i64 x] 3)) hgrow5 (Hlp.own_ne (hown4'.alloc (.cells #[.int .i64 x] 3)) (blk_alloc hx4 (.cells #[.int .i64 x] 3)) (by simp)); have y1 := cell_far hx5 1 _ rfl; have hB5 : Below w.heap.size w w5 := (hBV4.alloc hBV4.size _).grown hgrow5 (by have := hBV4.size; simp; omega) (fun q e => (hown4'.lt _ e).1); obtain ⟨A5, c5, e5, hc5, hC5⟩ := C_of_ints (int_app hown5); subst e5; have hal5 := hal w5 A5 c5 hB5 hC5 hc5; rw [hM5] at hal5)
      | (go_at_call 47; with_reducible refine hal5.mono ?_; rintro e w6 ⟨v6, rfl, hown6, hB6⟩; have hB6w := hB5.trans (hB6.mono hB5.size); obtain ⟨p6, c6, rfl⟩ := Hlp.own_slice hown6; have hx6 := blk_below hx5 hB6; have x1 := cell_far hx6 1 _ rfl; have hC6 := Kd.C_below hC5 hB6; have hmade : (w6.alloc (.cells #[] 3)).ownsRow w.heap.size 3 1 (.slice (some ⟨w6.heap.size, 0, none⟩) 0 0) 0 [] := World.ownsRow_made w6 #[] 0 hB6w.size (Nat.zero_le _) rfl; obtain ⟨hnwa, hnwb⟩ := news_of_C (Kd.C_alloc (Kd.C_below hr1 hB6w) (.cells #[] 3)); have hsz6 : w.heap.size ≤ (w6.alloc (.cells #[] 3)).heap.size := by (have := hB6w.size; simp; omega))
      | (at_builtin; refine wpList_append_any (.tmp 52) (.tmp 53) 46 rfl w.heap.size 3 i0 (.int .i64 0) 8 Try.underlying46 hi hz0 hz1 hz2 rfl _ 0 [] rfl hmade A1 L.length c1 (ints L) rfl hil hnwa hnwb (ints_one L) hmx hby hsz6 rfl ?_; intro v7 w7 hown7 hgrow7 hat7; have hown7' : w7.ownsRow w.heap.size 3 1 v7 L.length (ints L) := (by simpa using hown7); obtain ⟨p7, c7, rfl⟩ := Hlp.own_slice hown7'; have hB7 : Below w.heap.size w w7 := (hB6w.alloc hB6w.size _).grown hgrow7 hsz6 (fun q e => (hmade.lt q e).1))
      | (at_builtin; refine wpList_append_own_at _ rfl _ _ 46 rfl w.heap.size 3 i0 (.int .i64 0) 1 8 Try.underlying46 hi hz0 hz1 hz2 rfl (by decide) _ _ _ rfl (hown7'.alloc _) ⟨w7.heap.size, 0, none⟩ 1 1 [.int .i64 x] rfl rfl (cell_one_new _ _ _) (by simp [Value.oneCell']) (by unfold maxLen; omega) (by omega) (by have := hB7.size; simp; omega) ?_; intro v8 w8 hown8 hgrow8 hnil8 hblk8))
    go_ret3
    have h9 := int_app hown8
    rw [List.length_append, List.length_singleton] at h9
    exact ⟨_, _, rfl, h9, World.ownsRow_nil _ _ _ _, (hB7.alloc hB7.size _).grown hgrow8 (by have := hB7.size; simp; omega) (fun q e => (hown7'.lt _ e).1)⟩
end Go.Proofs.Ytcebjhbphcoboaa.Ato
