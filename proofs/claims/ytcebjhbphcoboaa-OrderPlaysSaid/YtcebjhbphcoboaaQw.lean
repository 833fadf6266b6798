/- The theory of ranks (order): which literals are implied, in order. A walk by hand. -/
import Derived.Test.YtcebjhbphcoboaaQu
import Derived.Test.YtcebjhbphcoboaaXm
namespace Go.Proofs.Ytcebjhbphcoboaa.Ato
open Go Go.RowKit Go.Proofs.Ytcebjhbphcoboaa.X Go.Proofs.Ytcebjhbphcoboaa.Hlp Go.Proofs.YtcebjhbphcoboaaW.PrintWords Go.Proofs.YtcebjhbphcoboaaW.PrintLast Go.Proofs.YtcebjhbphcoboaaW.PrintMore Go.Proofs.Ytcebjhbphcoboaa.Aid Go.Proofs.Ytcebjhbphcoboaa.Clean12
attribute [local go_sem] max2_int min2_int max_two min_two
set_option linter.unusedVariables false
set_option linter.unusedSimpArgs false
/-- A list is the same as itself. -/
theorem same_l0 (L : List Int) (hL : L.length ≤ 1000000000) : ∀ d n : Nat, L.length - n = d → n ≤ L.length → Ev (fun k => ferruleref12_Same.l0 k L L (n : Int)) true := by
  intro d
  induction d with
  | zero => exact fun n hd hn => Ev.step (fun k => by rw [ferruleref12_Same.l0]) (ev_neg (by omega) (Ev.now _))
  | succ d ih =>
    intro n hd hn
    have hlt : n < L.length := by omega
    refine Ev.step (fun k => by rw [ferruleref12_Same.l0]) (ev_pos (by omega) (ev_pos (by omega) (ev_pos (by omega) (ev_pos rfl ?_))))
    rw [wrap64_in (by omega) (by omega), show (n : Int) + 1 = ((n + 1 : Nat) : Int) by omega]
    exact ih (n + 1) (by omega) (by omega)
theorem same_ev (L : List Int) (hL : L.length ≤ 1000000000) : Ev (fun k => ferruleref12_Same.f k L L) true := by
  unfold ferruleref12_Same.f
  exact ev_pos rfl (same_l0 L hL _ 0 rfl (Nat.zero_le _))
theorem ty3 : ∀ h, (Try.prog.types[3]'h).size = 1 := fun h => by kernel_rfl
theorem ix0 (a b : Value) (W : World) : (Instr.index 127 (.agg #[a, b]) (.int .i64 0)).run Try.prog W = .ok a W := by kernel_rfl
theorem ix1 (a b : Value) (W : World) : (Instr.index 127 (.agg #[a, b]) (.int .i64 1)).run Try.prog W = .ok b W := by kernel_rfl
theorem nx0 {M M0 a b : List Int} (h : (0 : Int) = 0 ∧ M = M0 ∨ (0 : Int) = 1 ∧ M = a ∨ (0 : Int) = 2 ∧ M = b) : M = M0 := by
  rcases h with ⟨_, rfl⟩ | ⟨e, _⟩ | ⟨e, _⟩
  · rfl
  · omega
  · omega
theorem nx1 {M a b M1 : List Int} (h : (1 : Int) = 0 ∧ M = a ∨ (1 : Int) = 1 ∧ M = M1 ∨ (1 : Int) = 2 ∧ M = b) : M = M1 := by
  rcases h with ⟨e, _⟩ | ⟨_, rfl⟩ | ⟨e, _⟩
  · omega
  · rfl
  · omega
theorem nx2 {M a b M2 : List Int} (h : (2 : Int) = 0 ∧ M = a ∨ (2 : Int) = 1 ∧ M = b ∨ (2 : Int) = 2 ∧ M = M2) : M = M2 := by
  rcases h with ⟨e, _⟩ | ⟨e, _⟩ | ⟨_, rfl⟩
  · omega
  · omega
  · rfl
set_option maxHeartbeats 4000000 in
set_option maxRecDepth 100000 in
theorem impl_calls {W0 : World} {b0 g : Nat} {l : List Int} {w : World} {base gs : Nat} {lv : Value} {L : List Int} (h : SO W0 b0 g l w base gs lv L) (p : Int) (hs : Szs l) (hL : L.length ≤ 100) (hx : In64 L) :
    Calls Try.prog 51 #[.pointer (some ⟨gs, 0, none⟩), .int .i64 p] w fun e w' => ∃ v, e = .returned v ∧ w'.ownsRow w.heap.size 3 1 v (impL l L p).length (ints (impL l L p)) ∧ Below w.heap.size w w' := by
  have hT := h.at_
  obtain ⟨hs1, hs2, hs3⟩ := id hs
  obtain ⟨h1, h2, h3, h4, h5, h6⟩ := h
  obtain ⟨i0, hi, hz0, hz1, hz2⟩ := info_parts info3'
  obtain ⟨A, c, rfl, hc, hC⟩ := C_of_cut h6
  have hof := fun W (hb : Below w.heap.size w W) => of_calls (hT.below hb) p A c L (Kd.C_below hC hb) hc (by omega) hx.wide hs1 hs2 hs3
  have hvars : ∀ W, Below w.heap.size w W → Calls Try.prog 88 #[.pointer (some ⟨g, 0, none⟩)] W fun e w' => e = .returned (.int .i64 (tot l)) ∧ Below W.heap.size W w' := fun W hb => (vars_calls (hT.below hb)).mono fun e w' ⟨he, hw⟩ => ⟨he, hw ▸ Below.refl _ _⟩
  have hlit := fun x hx W (hb : Below w.heap.size w W) => lit_calls (hT.below hb) x hx hs1 hs2 hs3
  have hol := ofL_len l p L
  have hin3 : In64 (ofL l p L) := fun y hy => hx y (List.mem_filter.mp hy).1
  have ht0 := tot_nonneg fun n hm => (hs2 n hm).1
  have c0 := cell_far h4 0 _ rfl
  have c1 := cell_far h4 1 _ rfl
  unfold impL
  generalize ofL l p L = O at *
  go_enter Try.func51, Try.ntmps51
  go_wp2_with fail
  have hBd : Below w.heap.size w w.drew := pw_below_drewN (Below.refl _ _) 1
  have d0 : w.drew.cell? ⟨gs, 0, none⟩ = some (.pointer (some ⟨g, 0, none⟩)) := c0
  have d1 : w.drew.cell? ⟨gs, 1, none⟩ = some (.slice A L.length c) := c1
  go_region_held3 (fun w' => w'.cell? ⟨gs, 0, none⟩ = some (.pointer (some ⟨g, 0, none⟩)) ∧ w'.cell? ⟨gs, 1, none⟩ = some (.slice A L.length c)) (first | exact ⟨k0, k1⟩ | exact ⟨d0, d1⟩)
    (first
    | (go_at_call 78; with_reducible refine (hof _ hBd).mono ?_; rintro e w3 ⟨v3, rfl, hown3, hB3⟩; obtain ⟨A3, c3, e3, hc3, hC3⟩ := C_of_ints hown3; subst e3; have hBw3 := hBd.trans (hB3.mono hBd.size); have k0 := cell_below' d0 hB3; have k1 := cell_below' d1 hB3))
  all_goals
    have hown30 := Hlp.own_base hown3 hBd.size
    clear hof d0 d1 k0 k1 c0 c1 hown3 hB3 hBd
    go_wp2_with fail
    have hcont : ∀ (y : Int) W, Below w3.heap.size w3 W → Calls Try.prog 77 #[.slice A3 O.length c3, .int .i64 y] W fun e w' => e = .returned (.bool (decide (y ∈ O))) ∧ Drawn0 W w' := fun y W hb => by
      obtain ⟨kc, hkc⟩ := contains_ev O (by omega) y
      exact slices_Contains_int_int.calls kc A3 c3 O y _ W (Kd.C_below hC3 hb) hc3 hkc
    have himp := fun (y : Int) (hy : -16777216 ≤ y ∧ y ≤ 16777216) W (hb : Below w3.heap.size w3 W) => implied_calls (hT.below (hBw3.trans (hb.mono hBw3.size))) p A3 c3 O y (Kd.C_below hC3 hb) hc3 (by omega) hin3 hy hs
    go_loopw [5, 7] (fun v5 v7 wr => ∃ k : Nat, k ≤ (tot l).toNat ∧ v7 = .int .i64 ((k : Int) + 1) ∧ wr.ownsRow w3.heap.size 3 1 v5 (impK l O p k).length (ints (impK l O p k)) ∧ Below w3.heap.size w3 wr)
      (fun _ v7 _ => (tot l + 1 - intOf v7).toNat)
    case atStart => exact ⟨0, Nat.zero_le _, rfl, World.ownsRow_nil _ _ _ _, Below.refl _ _⟩
    case round =>
      obtain ⟨k, hk, rfl, hown, hBr⟩ := hrel
      have hB := hBw3.trans (hBr.mono hBw3.size)
      obtain ⟨p5, c5, rfl⟩ := Hlp.own_slice hown
      have hgr := blk_below h4 hB
      have z0 := cell_far hgr 0 _ rfl
      clear hgr
      by_cases hk1 : k < (tot l).toNat
      · have hkI : (k : Int) + 1 ≤ tot l := by omega
        have hok : litOk l ((k : Int) + 1) = true := decide_eq_true ⟨by omega, by omega⟩
        have hlk := hlit ((k : Int) + 1) (by omega)
        generalize hA : litA l ((k : Int) + 1) = X at hlk
        generalize litOk l ((k : Int) + 1) = K at hlk
        by_cases hp : (X.f1 == p) = true
        · have HPE := Aside0.mk (show X.f1 = p by simpa using hp)
          go_wp2_with (first
            | (go_at_call 88; with_reducible refine (hvars _ hB).mono ?_; rintro e w4 ⟨rfl, hB4⟩; have hBw4 := hB.trans (hB4.mono hB.size); have y0 := cell_below' z0 hB4)
            | (go_at_call 76; with_reducible refine (hlk _ hBw4).mono ?_; rintro e w5 ⟨rfl, hB5⟩; have hBw5 := hBw4.trans (hB5.mono hBw4.size); have x0 := cell_below' y0 hB5; obtain ⟨a0, a1, a2⟩ := box_cells w5 (.int .i64 X.f0) (.int .i64 X.f1) (.int .i64 X.f2)))
          have hbn : (X.f1 != p) = false := by rw [bne, hp]; rfl
          rw [hbn]
          clear hbn
          have hBa := hBw5.alloc hBw5.size (.cells #[.int .i64 X.f0, .int .i64 X.f1, .int .i64 X.f2] 111)
          have hown5 := (Hlp.own_below (Hlp.own_below hown hB4) hB5).alloc (.cells #[.int .i64 X.f0, .int .i64 X.f1, .int .i64 X.f2] 111)
          have hW5 := (hBr.trans ((hB4.trans (hB5.mono hB4.size)).mono hBr.size)).alloc (hBr.trans ((hB4.trans (hB5.mono hB4.size)).mono hBr.size)).size (.cells #[.int .i64 X.f0, .int .i64 X.f1, .int .i64 X.f2] 111)
          clear z0 y0 x0 a0 a1 a2 hBw4 hBw5 hB4 hB5 hp
          generalize w5.alloc (.cells #[.int .i64 X.f0, .int .i64 X.f1, .int .i64 X.f2] 111) = W5 at *
          have hlen := impK_len l O p k
          have HK := Aside0.mk (show impK l O p (k + 1) = impK l O p k ++ (imp1 l O p ((k : Int) + 1) ++ imp1 l O p (-((k : Int) + 1))) by rw [impK]; unfold impV; rw [hA, if_pos HPE.out])
          generalize impK l O p k = M0 at *
          go_loopw [5, 50] (fun v5 v50 wr => ∃ (i : Int) (M : List Int), (i = 0 ∧ M = M0 ∨ i = 1 ∧ M = M0 ++ imp1 l O p ((k : Int) + 1) ∨ i = 2 ∧ M = M0 ++ imp1 l O p ((k : Int) + 1) ++ imp1 l O p (-((k : Int) + 1))) ∧ v50 = .int .i64 i ∧ wr.ownsRow w3.heap.size 3 1 v5 M.length (ints M) ∧ Below w3.heap.size w3 wr)
            (fun _ v50 _ => (2 - intOf v50).toNat)
          case atStart => exact ⟨0, M0, .inl ⟨rfl, rfl⟩, rfl, hown5, hW5⟩
          case round =>
            obtain ⟨i, M, hiM, rfl, hownM, hBi⟩ := hrel
            have hBw6 := hBi
            have hZ := hBw3.trans (hBw6.mono hBw3.size)
            have s0 := cell_far (blk_below h4 hZ) 0 _ rfl
            have hl1 := imp1_len l O p ((k : Int) + 1)
            have hMl : M.length ≤ 2 * k + 2 := by
              rcases hiM with ⟨_, e⟩ | ⟨_, e⟩ | ⟨_, e⟩ <;> (rw [e]; (try rw [List.length_append]); (try rw [List.length_append]); have := imp1_len l O p (-((k : Int) + 1)); omega)
            obtain ⟨pM, cM, rfl⟩ := Hlp.own_slice hownM
            have HM := Aside0.mk hiM
            have hi3 : i = 0 ∨ i = 1 ∨ i = 2 := by rcases hiM with ⟨e, _⟩ | ⟨e, _⟩ | ⟨e, _⟩ <;> omega
            clear hiM
            rcases hi3 with rfl | rfl | rfl
            · have HN := Aside0.mk (nx0 HM.out)
              clear HM
              have hix := ix0 (.int .i64 ((k : Int) + 1)) (.int .i64 (-((k : Int) + 1)))
              have hcy := hcont ((k : Int) + 1)
              by_cases hm : ((k : Int) + 1) ∈ O
              · have hi1 : imp1 l O p ((k : Int) + 1) = [] := if_pos hm
                rw [decide_eq_true hm] at hcy
                clear hm
                go_wp2_with (first
                  | (go_at_call 77; with_reducible refine (hcy _ hBw6).mono ?_; rintro e w7 ⟨rfl, ⟨m7, rfl⟩⟩; have hBD := pw_below_drewN hBw6 m7; have hD7 := pw_below_drewN (Below.refl wr.heap.size wr) m7; have t0 := cell_below' s0 hD7))
                refine ⟨⟨1, M ++ imp1 l O p ((k : Int) + 1), .inr (.inl ⟨rfl, by rw [HN.out]⟩), rfl, ?_, hBi.trans (hD7.mono hBi.size)⟩, by simp [intOf]⟩
                rw [hi1, List.append_nil]
                exact Hlp.own_below hownM hD7
              by_cases hal : alw l p (O ++ [-((k : Int) + 1)]) = []
              · have hi1 : imp1 l O p ((k : Int) + 1) = [((k : Int) + 1)] := by unfold imp1; rw [if_neg hm, if_pos hal]
                have himy := himp ((k : Int) + 1) (by omega)
                rw [decide_eq_false hm] at hcy
                rw [decide_eq_true hal] at himy
                clear hm hal
                go_wp2_with (first
                  | (go_at_call 77; with_reducible refine (hcy _ hBw6).mono ?_; rintro e w7 ⟨rfl, ⟨m7, rfl⟩⟩; have hBD := pw_below_drewN hBw6 m7; have hD7 := pw_below_drewN (Below.refl wr.heap.size wr) m7; have t0 := cell_below' s0 hD7)
                  | (go_at_call 87; with_reducible refine (himy _ hBD).mono ?_; rintro e w8 ⟨rfl, hB8⟩; have hD8 := hD7.trans (hB8.mono hD7.size); have hownM8 := Hlp.own_below hownM hD8)
                  | (at_builtin; refine wpList_append_own_at _ rfl _ _ 46 rfl w3.heap.size 3 i0 (.int .i64 0) 1 8 Try.underlying46 hi hz0 hz1 hz2 rfl (by decide) _ _ _ rfl (hownM8.alloc _) ⟨w8.heap.size, 0, none⟩ 1 1 [.int .i64 ((k : Int) + 1)] rfl rfl (cell_one_new _ _ _) (by simp [Value.oneCell']) (by unfold maxLen; omega) (by omega) (by have := hD8.size; have := hBw6.size; simp; omega) ?_; intro v9 w9 hown9 hgrow9 hnil9 hblk9))
                refine ⟨⟨1, M ++ imp1 l O p ((k : Int) + 1), .inr (.inl ⟨rfl, by rw [HN.out]⟩), rfl, ?_, ?_⟩, by simp [intOf]⟩
                · rw [hi1]; exact int_app hown9
                · exact ((hBi.trans (hD8.mono hBi.size)).alloc (hBi.trans (hD8.mono hBi.size)).size _).grown hgrow9 (by have := (hBi.trans (hD8.mono hBi.size)).size; simp; omega) (fun q e => (hownM.lt q e).1)
              · have hi1 : imp1 l O p ((k : Int) + 1) = [] := by unfold imp1; rw [if_neg hm, if_neg hal]
                have himy := himp ((k : Int) + 1) (by omega)
                rw [decide_eq_false hm] at hcy
                rw [decide_eq_false hal] at himy
                clear hm hal
                go_wp2_with (first
                  | (go_at_call 77; with_reducible refine (hcy _ hBw6).mono ?_; rintro e w7 ⟨rfl, ⟨m7, rfl⟩⟩; have hBD := pw_below_drewN hBw6 m7; have hD7 := pw_below_drewN (Below.refl wr.heap.size wr) m7; have t0 := cell_below' s0 hD7)
                  | (go_at_call 87; with_reducible refine (himy _ hBD).mono ?_; rintro e w8 ⟨rfl, hB8⟩))
                refine ⟨⟨1, M ++ imp1 l O p ((k : Int) + 1), .inr (.inl ⟨rfl, by rw [HN.out]⟩), rfl, ?_, hBi.trans ((hD7.trans (hB8.mono hD7.size)).mono hBi.size)⟩, by simp [intOf]⟩
                rw [hi1, List.append_nil]
                exact Hlp.own_below hownM (hD7.trans (hB8.mono hD7.size))
            · have HN := Aside0.mk (nx1 HM.out)
              clear HM
              have hix := ix1 (.int .i64 ((k : Int) + 1)) (.int .i64 (-((k : Int) + 1)))
              have hcy := hcont (-((k : Int) + 1))
              by_cases hm : (-((k : Int) + 1)) ∈ O
              · have hi1 : imp1 l O p (-((k : Int) + 1)) = [] := if_pos hm
                rw [decide_eq_true hm] at hcy
                clear hm
                go_wp2_with (first
                  | (go_at_call 77; with_reducible refine (hcy _ hBw6).mono ?_; rintro e w7 ⟨rfl, ⟨m7, rfl⟩⟩; have hBD := pw_below_drewN hBw6 m7; have hD7 := pw_below_drewN (Below.refl wr.heap.size wr) m7; have t0 := cell_below' s0 hD7))
                refine ⟨⟨2, M ++ imp1 l O p (-((k : Int) + 1)), .inr (.inr ⟨rfl, by rw [HN.out]⟩), rfl, ?_, hBi.trans (hD7.mono hBi.size)⟩, by simp [intOf]⟩
                rw [hi1, List.append_nil]
                exact Hlp.own_below hownM hD7
              by_cases hal : alw l p (O ++ [-(-((k : Int) + 1))]) = []
              · have hi1 : imp1 l O p (-((k : Int) + 1)) = [(-((k : Int) + 1))] := by unfold imp1; rw [if_neg hm, if_pos hal]
                have himy := himp (-((k : Int) + 1)) (by omega)
                rw [decide_eq_false hm] at hcy
                rw [decide_eq_true hal] at himy
                clear hm hal
                go_wp2_with (first
                  | (go_at_call 77; with_reducible refine (hcy _ hBw6).mono ?_; rintro e w7 ⟨rfl, ⟨m7, rfl⟩⟩; have hBD := pw_below_drewN hBw6 m7; have hD7 := pw_below_drewN (Below.refl wr.heap.size wr) m7; have t0 := cell_below' s0 hD7)
                  | (go_at_call 87; with_reducible refine (himy _ hBD).mono ?_; rintro e w8 ⟨rfl, hB8⟩; have hD8 := hD7.trans (hB8.mono hD7.size); have hownM8 := Hlp.own_below hownM hD8)
                  | (at_builtin; refine wpList_append_own_at _ rfl _ _ 46 rfl w3.heap.size 3 i0 (.int .i64 0) 1 8 Try.underlying46 hi hz0 hz1 hz2 rfl (by decide) _ _ _ rfl (hownM8.alloc _) ⟨w8.heap.size, 0, none⟩ 1 1 [.int .i64 (-((k : Int) + 1))] rfl rfl (cell_one_new _ _ _) (by simp [Value.oneCell']) (by unfold maxLen; omega) (by omega) (by have := hD8.size; have := hBw6.size; simp; omega) ?_; intro v9 w9 hown9 hgrow9 hnil9 hblk9))
                refine ⟨⟨2, M ++ imp1 l O p (-((k : Int) + 1)), .inr (.inr ⟨rfl, by rw [HN.out]⟩), rfl, ?_, ?_⟩, by simp [intOf]⟩
                · rw [hi1]; exact int_app hown9
                · exact ((hBi.trans (hD8.mono hBi.size)).alloc (hBi.trans (hD8.mono hBi.size)).size _).grown hgrow9 (by have := (hBi.trans (hD8.mono hBi.size)).size; simp; omega) (fun q e => (hownM.lt q e).1)
              · have hi1 : imp1 l O p (-((k : Int) + 1)) = [] := by unfold imp1; rw [if_neg hm, if_neg hal]
                have himy := himp (-((k : Int) + 1)) (by omega)
                rw [decide_eq_false hm] at hcy
                rw [decide_eq_false hal] at himy
                clear hm hal
                go_wp2_with (first
                  | (go_at_call 77; with_reducible refine (hcy _ hBw6).mono ?_; rintro e w7 ⟨rfl, ⟨m7, rfl⟩⟩; have hBD := pw_below_drewN hBw6 m7; have hD7 := pw_below_drewN (Below.refl wr.heap.size wr) m7; have t0 := cell_below' s0 hD7)
                  | (go_at_call 87; with_reducible refine (himy _ hBD).mono ?_; rintro e w8 ⟨rfl, hB8⟩))
                refine ⟨⟨2, M ++ imp1 l O p (-((k : Int) + 1)), .inr (.inr ⟨rfl, by rw [HN.out]⟩), rfl, ?_, hBi.trans ((hD7.trans (hB8.mono hD7.size)).mono hBi.size)⟩, by simp [intOf]⟩
                rw [hi1, List.append_nil]
                exact Hlp.own_below hownM (hD7.trans (hB8.mono hD7.size))
            · have HN := Aside0.mk (nx2 HM.out)
              clear HM
              go_wp2_with fail
              refine ⟨⟨k + 1, by omega, by rw [show ((k + 1 : Nat) : Int) = (k : Int) + 1 by omega], ?_, hBw6⟩, by simp [intOf]; omega⟩
              rw [HK.out, ← List.append_assoc, ← HN.out]
              exact hownM
        · have hpf : (X.f1 == p) = false := by simpa using hp
          go_wp2_with (first
            | (go_at_call 88; with_reducible refine (hvars _ hB).mono ?_; rintro e w4 ⟨rfl, hB4⟩; have hBw4 := hB.trans (hB4.mono hB.size); have y0 := cell_below' z0 hB4)
            | (go_at_call 76; with_reducible refine (hlk _ hBw4).mono ?_; rintro e w5 ⟨rfl, hB5⟩; have hBw5 := hBw4.trans (hB5.mono hBw4.size); have x0 := cell_below' y0 hB5; obtain ⟨a0, a1, a2⟩ := box_cells w5 (.int .i64 X.f0) (.int .i64 X.f1) (.int .i64 X.f2)))
          refine ⟨⟨k + 1, by omega, by rw [show ((k + 1 : Nat) : Int) = (k : Int) + 1 by omega], ?_, ?_⟩, by simp [intOf]; omega⟩
          · have e : impK l O p (k + 1) = impK l O p k := by
              rw [impK]; unfold impV
              rw [hA, if_neg (by simpa using hp), List.append_nil]
            rw [e]
            exact (Hlp.own_below (Hlp.own_below hown hB4) hB5).alloc _
          · exact (hBr.trans ((hB4.trans (hB5.mono hB4.size)).mono hBr.size)).alloc (hBr.trans ((hB4.trans (hB5.mono hB4.size)).mono hBr.size)).size _
      · have hkI : ¬ (k : Int) + 1 ≤ tot l := by omega
        obtain rfl : k = (tot l).toNat := by omega
        have hneg : ¬ (((tot l).toNat : Nat) : Int) + 1 ≤ tot l := by omega
        go_wp2_with (first
          | (go_at_call 88; with_reducible refine (hvars _ hB).mono ?_; rintro e w4 ⟨rfl, hB4⟩))
        go_ret
        exact ⟨_, rfl, Hlp.own_base (Hlp.own_below hown hB4) hBw3.size, hB.trans (hB4.mono hB.size)⟩
end Go.Proofs.Ytcebjhbphcoboaa.Ato
