/- The theory of ranks (order): a literal is asserted that is none of those that are. Walks by hand. -/
import Derived.Test.YtcebjhbphcoboaaQQm
namespace Go.Proofs.Ytcebjhbphcoboaa.Ato
open Go Go.RowKit Go.Proofs.Ytcebjhbphcoboaa.X Go.Proofs.Ytcebjhbphcoboaa.Hlp Go.Proofs.YtcebjhbphcoboaaW.PrintWords Go.Proofs.YtcebjhbphcoboaaW.PrintLast Go.Proofs.YtcebjhbphcoboaaW.PrintMore Go.Proofs.Ytcebjhbphcoboaa.Aid Go.Proofs.Ytcebjhbphcoboaa.Clean12
attribute [local go_sem] max2_int min2_int max_two min_two
set_option linter.unusedVariables false
set_option linter.unusedSimpArgs false
set_option maxHeartbeats 4000000 in
set_option maxRecDepth 100000 in
theorem assert_conf {W0 : World} {b0 g : Nat} {l : List Int} {w : World} {base gs : Nat} {lv : Value} {L : List Int} (h : SO W0 b0 g l w base gs lv L) (x : Int) (hs : Szs l) (hL : L.length ≤ 100) (hx : In64 L) (hok : litOk l x = true) (hm : x ∉ L) (hn : -x ∉ L) (hal : alw l (litA l x).f1 (asM l L x) = []) :
    Calls Try.prog 42 #[.pointer (some ⟨gs, 0, none⟩), .int .i64 x] w fun e w' => ∃ v, e = .returned (.tuple #[v, .int .i64 18]) ∧ w'.ownsRow w.heap.size 3 1 v (negL (expl l (litA l x).f1 0 (asM l L x))).length (ints (negL (expl l (litA l x).f1 0 (asM l L x)))) ∧ Below w.heap.size w w' := by
  have hT := h.at_
  obtain ⟨hs1, hs2, hs3⟩ := id hs
  obtain ⟨h1, h2, h3, h4, h5, h6⟩ := h
  obtain ⟨i0, hi, hz0, hz1, hz2⟩ := info_parts info3'
  obtain ⟨A, c, rfl, hc, hC⟩ := C_of_cut h6
  obtain ⟨kc, hkc⟩ := contains_ev L (by omega) x
  obtain ⟨kd, hkd⟩ := contains_ev L (by omega) (-x)
  have hxi := litOk_in hs3 hok
  have hlit := fun W (hb : Below w.heap.size w W) => lit_calls (hT.below hb) x (by omega) hs1 hs2 hs3
  rw [decide_eq_false hm] at hkc
  rw [decide_eq_false hn] at hkd
  have hcont := fun W (hb : Below w.heap.size w W) => slices_Contains_int_int.calls kc A c L x _ W (Kd.C_below hC hb) hc hkc
  have hcond := fun W (hb : Below w.heap.size w W) => slices_Contains_int_int.calls kd A c L (-x) _ W (Kd.C_below hC hb) hc hkd
  have hof := fun p W (hb : Below w.heap.size w W) => of_calls (hT.below hb) p A c L (Kd.C_below hC hb) hc (by omega) hx.wide hs1 hs2 hs3
  have c0 := cell_far h4 0 _ rfl
  have c1 := cell_far h4 1 _ rfl
  unfold asM at *
  obtain ⟨a0, P, a2, hA⟩ : ∃ a0 P a2, litA l x = ⟨a0, P, a2⟩ := ⟨_, _, _, rfl⟩
  rw [hA] at hlit hal ⊢
  rw [hok] at hlit
  clear hA hm hn hkc hkd
  dsimp only at hlit hal ⊢
  go_enter Try.func42, Try.ntmps42
  go_wp2_with (first
    | (go_at_call 76; with_reducible refine (hlit _ (Below.refl _ _)).mono ?_; rintro e w1 ⟨rfl, hB1⟩; have hBV : Below w.heap.size w (w1.alloc (.cells #[.int .i64 a0, .int .i64 P, .int .i64 a2] 111)) := hB1.alloc hB1.size _; have d0 := cell_below' c0 hBV; have d1 := cell_below' c1 hBV; obtain ⟨z0, z1, z2⟩ := box_cells w1 (.int .i64 a0) (.int .i64 P) (.int .i64 a2))
    | (go_at_call 77; with_reducible refine (hcont _ hBV).mono ?_; rintro e w2 ⟨rfl, ⟨m2, rfl⟩⟩; have hBV2 := pw_below_drewN hBV m2)
    | (go_at_call 77; with_reducible refine (hcond _ hBV2).mono ?_; rintro e w3 ⟨rfl, ⟨m3, rfl⟩⟩; have hBV3 := pw_below_drewN hBV2 m3))
  have hBV4 := pw_below_drewN hBV (m2 + m3)
  have hg4 : ((w1.alloc (.cells #[.int .i64 a0, .int .i64 P, .int .i64 a2] 111)).drewN (m2 + m3)).heap[gs]? = some (.cells #[.pointer (some ⟨g, 0, none⟩), .slice A L.length c] 113 (0, 0)) := blk_below h4 hBV4
  have hx4 : ((w1.alloc (.cells #[.int .i64 a0, .int .i64 P, .int .i64 a2] 111)).drewN (m2 + m3)).heap[w1.heap.size]? = some (.cells #[.int .i64 a0, .int .i64 P, .int .i64 a2] 111 (0, 0)) := blk_new w1 _
  generalize (w1.alloc (.cells #[.int .i64 a0, .int .i64 P, .int .i64 a2] 111)).drewN (m2 + m3) = W4 at hBV4 hg4 hx4 ⊢
  clear hBV2 hBV3 hBV d0 d1 z0 z1 z2 hcont hcond hlit c0 c1
  have e0 := cell_far hg4 0 _ rfl
  have e1 := cell_far hg4 1 _ rfl
  have ez := cell_far hx4 1 _ rfl
  have hol := ofL_len l P L
  have hBd : Below w.heap.size w W4.drew := below_drew1 hBV4
  have hBa : Below w.heap.size w (W4.alloc (.cells #[.int .i64 x] 3)).drew := below_drew1 (hBV4.alloc hBV4.size _)
  have eg78 : ∀ args w, (callFunc 78 args).run Try.prog w = .ok (.enter 78 args) w := enters_of Try.func78 (by kernel_rfl) rfl
  go_region_held3 (fun w' => w'.cell? ⟨gs, 0, none⟩ = some (.pointer (some ⟨g, 0, none⟩)) ∧ w'.cell? ⟨gs, 1, none⟩ = some (.slice A L.length c) ∧ w'.cell? ⟨w1.heap.size, 1, none⟩ = some (.int .i64 P)) (first | exact ⟨r0, r1, ry⟩ | exact ⟨k0, k1, ky⟩ | (refine ⟨cell_below' k0 ?_, cell_below' k1 ?_, cell_below' ky ?_⟩ <;> (repeat (first | exact Below.refl _ _ | apply below_drew1 | refine Below.alloc ?_ (Nat.le_refl _) _))) | (refine ⟨cell_below' e0 ?_, cell_below' e1 ?_, cell_below' ez ?_⟩ <;> (repeat (first | exact Below.refl _ _ | apply below_drew1 | refine Below.alloc ?_ (Nat.le_refl _) _))))
    (first
    | (refine Hlp.step_call rfl 78 [.tmp 41, .tmp 43, .tmp 47] #[71, 3, 46] rfl [.pointer (some ⟨g, 0, none⟩), .int .i64 P, .slice A L.length c] rfl eg78 ?_; refine (hof P _ hBd).mono ?_; rintro e w3 ⟨v3, rfl, hown3, hB3⟩; have hB3d : Below W4.heap.size W4 w3 := (below_drew1 (Below.refl _ _)).trans hB3; obtain ⟨A3, c3, rfl⟩ := Hlp.own_slice hown3; have hBw3 := hBd.trans (hB3.mono hBd.size); have k0 := cell_below' e0 hB3d; have k1 := cell_below' e1 hB3d; have ky := cell_below' ez hB3d; have hg3 := blk_below hg4 hB3d; have hx3 := blk_below hx4 hB3d; have hown3' := Hlp.own_base hown3 hBd.size; refine ⟨_, rfl, ?_⟩)
    | (refine Hlp.step_call rfl 78 [.tmp 41, .tmp 43, .tmp 47] #[71, 3, 46] rfl [.pointer (some ⟨g, 0, none⟩), .int .i64 P, .slice A L.length c] rfl eg78 ?_; refine (hof P _ hBa).mono ?_; rintro e w3 ⟨v3, rfl, hown3, hB3⟩; have hB3d : Below W4.heap.size W4 w3 := (below_drew1 ((Below.refl _ _).alloc (Nat.le_refl _) (.cells #[.int .i64 x] 3))).trans (hB3.mono (by simp)); have hnb := blk_below (blk_drew (blk_new W4 (.cells #[.int .i64 x] 3))) hB3; obtain ⟨A3, c3, rfl⟩ := Hlp.own_slice hown3; have hBw3 := hBa.trans (hB3.mono hBa.size); have k0 := cell_below' e0 hB3d; have k1 := cell_below' e1 hB3d; have ky := cell_below' ez hB3d; have hg3 := blk_below hg4 hB3d; have hx3 := blk_below hx4 hB3d; have hown3' := Hlp.own_base hown3 hBa.size; refine ⟨_, rfl, ?_⟩)
    | (refine step_append_lies _ rfl (.tmp 48) (.tmp 50) 46 rfl w.heap.size 3 i0 (.int .i64 0) 1 8 Try.underlying46 hi hz0 hz1 hz2 rfl (by decide) _ _ _ rfl (hown3'.alloc _) ⟨w3.heap.size, 0, none⟩ 1 1 [.int .i64 x] rfl rfl (cell_one_new w3 _ _) (by simp [Value.oneCell']) (by decide) (by unfold maxLen; omega) (by omega) (by have := hBw3.size; simp; omega) _ rfl ?_; intro g5 c5 w5 hown5 hgrow5 hat5 hlt5; have hg5 := blk_grown (blk_alloc hg3 (.cells #[.int .i64 x] 3)) hgrow5 (Hlp.own_ne (hown3'.alloc (.cells #[.int .i64 x] 3)) (blk_alloc hg3 (.cells #[.int .i64 x] 3)) (by simp)); have hx5 := blk_grown (blk_alloc hx3 (.cells #[.int .i64 x] 3)) hgrow5 (Hlp.own_ne (hown3'.alloc (.cells #[.int .i64 x] 3)) (blk_alloc hx3 (.cells #[.int .i64 x] 3)) (by simp)); have r0 := cell_far hg5 0 _ rfl; have r1 := cell_far hg5 1 _ rfl; have ry := cell_far hx5 1 _ rfl; have hB5 : Below w.heap.size w w5 := (hBw3.alloc hBw3.size (.cells #[.int .i64 x] 3)).grown hgrow5 (by have := hBw3.size; simp; omega) (fun q e => (hown3'.lt _ e).1))
    | (refine step_append_lies _ rfl (.tmp 48) (.tmp 50) 46 rfl w.heap.size 3 i0 (.int .i64 0) 1 8 Try.underlying46 hi hz0 hz1 hz2 rfl (by decide) _ _ _ rfl hown3' ⟨W4.heap.size, 0, none⟩ 1 1 [.int .i64 x] rfl rfl (World.news_of_block hnb) (by simp [Value.oneCell']) (by decide) (by unfold maxLen; omega) (by omega) hBw3.size _ rfl ?_; intro g5 c5 w5 hown5 hgrow5 hat5 hlt5; have hg5 := blk_grown hg3 hgrow5 (Hlp.own_ne hown3' hg3 (by simp)); have hx5 := blk_grown hx3 hgrow5 (Hlp.own_ne hown3' hx3 (by simp)); have r0 := cell_far hg5 0 _ rfl; have r1 := cell_far hg5 1 _ rfl; have ry := cell_far hx5 1 _ rfl; have hB5 : Below w.heap.size w w5 := hBw3.grown hgrow5 hBw3.size (fun q e => (hown3'.lt _ e).1)))
  all_goals
    obtain ⟨A5, c5', e5, hc5, hC5⟩ := C_of_ints (int_app hown5)
    obtain ⟨eA, eL, ec⟩ := Value.slice.inj e5
    clear eL e5
    subst eA ec
    have hsubM : ∀ y ∈ ofL l P L ++ [x], -16777216 ≤ y ∧ y ≤ 16777216 := fun y hy => by
      rw [List.mem_append] at hy
      rcases hy with hy | hy
      · exact hx y (List.mem_filter.mp hy).1
      · simp at hy; omega
    have hall := fun W (hb : Below w5.heap.size w5 W) => allowed_calls (hT.below (hB5.trans (hb.mono hB5.size))) P _ c5 (ofL l P L ++ [x]) (Kd.C_below hC5 hb) hc5 (fun y hy => by have := hsubM y hy; omega) hs1 hs2 hs3
    rw [List.length_append, List.length_singleton] at hall
    rw [hal] at hall
    clear hgrow5 hat5 hg3 hx3 hBw3 hown3 hown3' hB3 hB3d k0 k1 ky
    have eg79 : ∀ args w, (callFunc 79 args).run Try.prog w = .ok (.enter 79 args) w := enters_of Try.func79 (by kernel_rfl) rfl
    go_wp2_with fail
    go_region_held3 (fun w' => w'.cell? ⟨gs, 0, none⟩ = some (.pointer (some ⟨g, 0, none⟩)) ∧ w'.cell? ⟨w1.heap.size, 1, none⟩ = some (.int .i64 P)) (first | exact ⟨t0, ty⟩ | exact ⟨r0, ry⟩)
      (first
      | (refine Hlp.step_call rfl 79 [.tmp 55, .tmp 57, .tmp 58] #[71, 3, 46] rfl [.pointer (some ⟨g, 0, none⟩), .int .i64 P, .slice (some ⟨g5, 0, none⟩) ((ofL l P L).length + 1) c5] rfl eg79 ?_; refine (hall w5.drew (below_drew1 (Below.refl _ _))).mono ?_; rintro e w6 ⟨v6, rfl, hown6, hB6⟩; obtain ⟨A6, c6, rfl⟩ := Hlp.own_slice hown6; have hB6d : Below w5.heap.size w5 w6 := (below_drew1 (Below.refl _ _)).trans hB6; have t0 := cell_below' r0 hB6d; have ty := cell_below' ry hB6d; refine ⟨_, rfl, ?_⟩))
    have hEl := expl_len l P 0 ((ofL l P L ++ [x]).length + 1) (ofL l P L ++ [x]) 0
    have hEm : In64 (expl l P 0 (ofL l P L ++ [x])) := fun y hy => hsubM y (expl_mem l P 0 _ _ _ y hy)
    have hEl2 : (expl l P 0 (ofL l P L ++ [x])).length ≤ 101 := by
      unfold expl
      rw [List.length_append, List.length_singleton] at hEl ⊢
      omega
    obtain ⟨kn, hkn⟩ := (neg_ev (expl l P 0 (ofL l P L ++ [x])) (by omega) hEm).rounds
    have hex := fun W (hb : Below w5.heap.size w5 W) => expl_calls (hT.below (hB5.trans (hb.mono hB5.size))) P 0 _ c5 (ofL l P L ++ [x]) (Kd.C_below hC5 hb) hc5 (by rw [List.length_append, List.length_singleton]; omega) (by omega) (fun y hy => by have := hsubM y hy; omega) hs1 hs2 hs3
    have hng := fun W A6 c6 hC6 hc6 => order_negated.calls kn A6 c6 (expl l P 0 (ofL l P L ++ [x])) _ W hC6 hc6 hkn
    rw [List.length_append, List.length_singleton, show ((0 : Nat) : Int) = 0 from rfl] at hex
    have eg81 : ∀ args w, (callFunc 81 args).run Try.prog w = .ok (.enter 81 args) w := enters_of Try.func81 (by kernel_rfl) rfl
    have eg80 : ∀ args w, (callFunc 80 args).run Try.prog w = .ok (.enter 80 args) w := enters_of Try.func80 (by kernel_rfl) rfl
    clear hEl hkn hEm hsubM hall
    generalize hE : expl l P 0 (ofL l P L ++ [x]) = E at hng hex hEl2
    have HE := Aside0.mk hE
    have HX := Aside0.mk hex
    have HN := Aside0.mk hng
    clear hE hex hng
    go_wp2_with fail
    go_region_held3 (fun w' => w'.cell? ⟨gs, 0, none⟩ = some (.pointer (some ⟨g, 0, none⟩)) ∧ w'.cell? ⟨w1.heap.size, 1, none⟩ = some (.int .i64 P)) (first | exact ⟨n0, ny⟩ | exact ⟨q0, q1⟩ | exact ⟨t0, ty⟩)
      (first
      | (refine Hlp.step_call rfl 81 [.tmp 65, .tmp 67, .tmp 68, .const (.int .i64 0)] #[71, 3, 46, 3] rfl [.pointer (some ⟨g, 0, none⟩), .int .i64 P, .slice (some ⟨g5, 0, none⟩) ((ofL l P L).length + 1) c5, .int .i64 0] rfl eg81 ?_; refine (HX.out w6.drew (below_drew1 hB6d)).mono ?_; rintro e w7 ⟨v7, rfl, hown7, hB7⟩; obtain ⟨A7, c7, e7, hc7, hC7⟩ := C_of_ints hown7; subst e7; have hB7d : Below w6.heap.size w6 w7 := (below_drew1 (Below.refl _ _)).trans hB7; have q0 := cell_below' t0 hB7d; have q1 := cell_below' ty hB7d; refine ⟨_, rfl, ?_⟩)
      | (refine Hlp.step_call rfl 80 [.tmp 69] #[46] rfl [.slice A7 E.length c7] rfl eg80 ?_; refine (HN.out _ _ _ hC7 hc7).mono ?_; rintro e w8 ⟨v8, rfl, hR8, hB8⟩; have hown8 := own_of_R hR8; have n0 := cell_below' q0 hB8; have ny := cell_below' q1 hB8; refine ⟨_, rfl, ?_⟩))
    go_wp2
    go_ret2
    exact ⟨v8, rfl, by rw [HE.out]; exact Hlp.own_base hown8 ((hB5.trans (hB6d.mono hB5.size)).trans (hB7d.mono (hB5.trans (hB6d.mono hB5.size)).size)).size, ((hB5.trans (hB6d.mono hB5.size)).trans (hB7d.mono (hB5.trans (hB6d.mono hB5.size)).size)).trans (hB8.mono ((hB5.trans (hB6d.mono hB5.size)).trans (hB7d.mono (hB5.trans (hB6d.mono hB5.size)).size)).size)⟩
end Go.Proofs.Ytcebjhbphcoboaa.Ato
