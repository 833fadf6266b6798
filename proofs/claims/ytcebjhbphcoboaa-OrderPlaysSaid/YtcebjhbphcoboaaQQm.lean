/- The theory of ranks (order): why a literal is implied; a literal is asserted. Walks by hand. (and what follows from it) -/
import Derived.Test.YtcebjhbphcoboaaQQk

namespace Go.Proofs.Ytcebjhbphcoboaa.Ato
open Go Go.RowKit Go.Proofs.Ytcebjhbphcoboaa.X Go.Proofs.Ytcebjhbphcoboaa.Hlp Go.Proofs.YtcebjhbphcoboaaW.PrintWords Go.Proofs.YtcebjhbphcoboaaW.PrintLast Go.Proofs.YtcebjhbphcoboaaW.PrintMore Go.Proofs.Ytcebjhbphcoboaa.Aid Go.Proofs.Ytcebjhbphcoboaa.Clean12
attribute [local go_sem] max2_int min2_int max_two min_two
set_option linter.unusedVariables false
set_option linter.unusedSimpArgs false
theorem rd_nat (l : List Int) (n : Nat) (h : n < l.length) : rd l (n : Int) = l[n] := by rw [rd_of (by omega) (by omega)]; rfl
theorem idx_l0 (L : List Int) (hL : L.length ≤ 100000) (x : Int) : ∀ d n : Nat, L.length - n = d → n ≤ L.length → ∃ r : Int, Ev (fun k => slices_Index_int_int.l0 k L x (L.length : Int) (n : Int)) r ∧ (0 ≤ r ↔ x ∈ L.drop n) := by
  intro d
  induction d with
  | zero =>
    intro n hd hn
    refine ⟨-1, Ev.step (fun k => by rw [slices_Index_int_int.l0]) (ev_neg (by omega) (Ev.now _)), ?_⟩
    rw [List.drop_eq_nil_of_le (by omega)]; simp
  | succ d ih =>
    intro n hd hn
    have hlt : n < L.length := by omega
    rw [List.drop_eq_getElem_cons hlt]
    by_cases he : x = L[n]
    · refine ⟨(n : Int), Ev.step (fun k => by rw [slices_Index_int_int.l0]) (ev_pos (by omega) (ev_pos (by omega) (ev_pos (by omega) ?_))), ?_⟩
      · rw [rd_nat L n hlt]; exact ev_pos he (Ev.now _)
      · exact ⟨fun _ => List.mem_cons.mpr (.inl he), fun _ => by omega⟩
    · obtain ⟨r, hr, hm⟩ := ih (n + 1) (by omega) (by omega)
      refine ⟨r, Ev.step (fun k => by rw [slices_Index_int_int.l0]) (ev_pos (by omega) (ev_pos (by omega) (ev_pos (by omega) ?_))), ?_⟩
      · rw [rd_nat L n hlt, wrap64_in (by omega) (by omega), show (n : Int) + 1 = ((n + 1 : Nat) : Int) by omega]; exact ev_neg he hr
      · rw [hm, List.mem_cons]; exact ⟨.inr, fun h => h.resolve_left he⟩
theorem contains_ev (L : List Int) (hL : L.length ≤ 100000) (x : Int) : ∃ k, slices_Contains_int_int.f k L x = some (decide (x ∈ L)) := by
  obtain ⟨r, hr, hm⟩ := idx_l0 L hL x _ 0 rfl (Nat.zero_le _)
  obtain ⟨k, hk⟩ := hr.rounds
  refine ⟨k, ?_⟩
  unfold slices_Contains_int_int.f slices_Index_int_int.f
  rw [show slices_Index_int_int.l0 k L x (L.length : Int) 0 = some r from hk]
  simp only [Option.bind_some]
  rw [List.drop_zero] at hm
  exact congrArg some (decide_eq_decide.mpr hm)
/-- Why a literal is implied, if it is. -/
def exM (l L : List Int) (x : Int) : List Int := ofL l (litA l x).f1 L ++ [-x]
def explainP (l L : List Int) (x : Int) : List Int × Bool :=
  if litOk l x = false ∨ x ∈ L then ([], false) else
  if alw l (litA l x).f1 (exM l L x) = [] then (negL (expl l (litA l x).f1 1 (exM l L x)), true) else ([], false)
theorem litOk_in {l : List Int} {x : Int} (ht : tot l ≤ 16777216) (h : litOk l x = true) : -16777216 ≤ x ∧ x ≤ 16777216 := by
  have := of_decide_eq_true h
  omega
theorem expl_mem (l : List Int) (p : Int) (keep : Nat) : ∀ f L i x, x ∈ explN l p keep f L i → x ∈ L
  | 0, _, _, _, h => h
  | f + 1, L, i, x, h => by
    rw [explN] at h
    split at h
    · split at h
      · exact wout_mem (expl_mem l p keep f _ _ x h)
      · exact expl_mem l p keep f _ _ x h
    · exact h
theorem expl_len (l : List Int) (p : Int) (keep : Nat) : ∀ f L i, (explN l p keep f L i).length ≤ L.length
  | 0, _, _ => Nat.le_refl _
  | f + 1, L, i => by
    rw [explN]
    split
    · split
      · have := wout_len L i (by omega)
        have := expl_len l p keep f (wout L i) i
        omega
      · exact expl_len l p keep f L (i + 1)
    · exact Nat.le_refl _
set_option maxHeartbeats 2000000 in
set_option maxRecDepth 100000 in
theorem explain_calls {W0 : World} {b0 g : Nat} {l : List Int} {w : World} {base gs : Nat} {lv : Value} {L : List Int} (h : SO W0 b0 g l w base gs lv L) (x : Int) (hxx : -9223372036854775808 ≤ x ∧ x ≤ 9223372036854775807) (hs : Szs l) (hL : L.length ≤ 100) (hx : In64 L) :
    Calls Try.prog 49 #[.pointer (some ⟨gs, 0, none⟩), .int .i64 x] w fun e w' => ∃ v, e = .returned (.tuple #[v, .bool (explainP l L x).2]) ∧ w'.ownsRow w.heap.size 3 1 v (explainP l L x).1.length (ints (explainP l L x).1) ∧ Below w.heap.size w w' := by
  have hT := h.at_
  obtain ⟨hs1, hs2, hs3⟩ := id hs
  obtain ⟨h1, h2, h3, h4, h5, h6⟩ := h
  obtain ⟨i0, hi, hz0, hz1, hz2⟩ := info_parts info3'
  obtain ⟨A, c, rfl, hc, hC⟩ := C_of_cut h6
  obtain ⟨kc, hkc⟩ := contains_ev L (by omega) x
  have hlit := fun W (hb : Below w.heap.size w W) => lit_calls (hT.below hb) x hxx hs1 hs2 hs3
  have hcont := fun W (hb : Below w.heap.size w W) => slices_Contains_int_int.calls kc A c L x _ W (Kd.C_below hC hb) hc hkc
  have c0 := cell_far h4 0 _ rfl
  have c1 := cell_far h4 1 _ rfl
  have hin := @litOk_in l x hs3
  have hof := fun p W (hb : Below w.heap.size w W) => of_calls (hT.below hb) p A c L (Kd.C_below hC hb) hc (by omega) hx.wide hs1 hs2 hs3
  unfold explainP exM
  obtain ⟨a0, P, a2, hA⟩ : ∃ a0 P a2, litA l x = ⟨a0, P, a2⟩ := ⟨_, _, _, rfl⟩
  rw [hA] at hlit ⊢
  clear hA
  dsimp only at hlit ⊢
  by_cases hok : litOk l x = true
  case neg =>
    rw [Bool.not_eq_true] at hok
    rw [hok] at hlit
    rw [if_pos (.inl hok)]
    clear hcont hin hof
    go_enter Try.func49, Try.ntmps49
    go_wp2_with (first
      | (go_at_call 76; with_reducible refine (hlit _ (Below.refl _ _)).mono ?_; rintro e w1 ⟨rfl, hB1⟩))
    go_ret2
    exact ⟨_, rfl, World.ownsRow_nil _ _ _ _, hB1.alloc hB1.size _⟩
  have hxi := hin hok
  rw [hok] at hlit
  by_cases hm : x ∈ L
  · rw [if_pos (.inr hm)]
    rw [decide_eq_true hm] at hcont
    clear hof hm
    go_enter Try.func49, Try.ntmps49
    go_wp2_with (first
      | (go_at_call 76; with_reducible refine (hlit _ (Below.refl _ _)).mono ?_; rintro e w1 ⟨rfl, hB1⟩; have hBV : Below w.heap.size w (w1.alloc (.cells #[.int .i64 a0, .int .i64 P, .int .i64 a2] 111)) := hB1.alloc hB1.size _; have d0 := cell_below' c0 hBV; have d1 := cell_below' c1 hBV)
      | (go_at_call 77; with_reducible refine (hcont _ hBV).mono ?_; rintro e w2 ⟨rfl, ⟨m2, rfl⟩⟩))
    go_ret2
    exact ⟨_, rfl, World.ownsRow_nil _ _ _ _, pw_below_drewN hBV _⟩
  rw [if_neg (show ¬ (litOk l x = false ∨ x ∈ L) by rw [hok]; simp [hm])]
  rw [decide_eq_false hm] at hcont
  clear hm
  have hol := ofL_len l P L
  have hin3 : In64 (ofL l P L) := fun y hy => hx y (List.mem_filter.mp hy).1
  have himp := fun W (hb : Below w.heap.size w W) A3 c3 (hC3 : Kd.C (Kd.int .i64) W A3 (ofL l P L).length (ofL l P L)) (hc3 : (ofL l P L).length ≤ c3) => implied_calls (hT.below hb) P A3 c3 (ofL l P L) x hC3 hc3 (by omega) hin3 hxi hs
  by_cases hal : alw l P (ofL l P L ++ [-x]) = []
  case neg =>
    rw [if_neg hal]
    rw [decide_eq_false hal] at himp
    clear hal
    go_enter Try.func49, Try.ntmps49
    go_wp2_with (first
      | (go_at_call 76; with_reducible refine (hlit _ (Below.refl _ _)).mono ?_; rintro e w1 ⟨rfl, hB1⟩; have hBV : Below w.heap.size w (w1.alloc (.cells #[.int .i64 a0, .int .i64 P, .int .i64 a2] 111)) := hB1.alloc hB1.size _; have d0 := cell_below' c0 hBV; have d1 := cell_below' c1 hBV; obtain ⟨z0, z1, z2⟩ := box_cells w1 (.int .i64 a0) (.int .i64 P) (.int .i64 a2))
      | (go_at_call 77; with_reducible refine (hcont _ hBV).mono ?_; rintro e w2 ⟨rfl, ⟨m2, rfl⟩⟩; have hBD := pw_below_drewN hBV (m2 + 1); have hVD := pw_below_drewN (Below.refl (w1.alloc (.cells #[.int .i64 a0, .int .i64 P, .int .i64 a2] 111)).heap.size (w1.alloc (.cells #[.int .i64 a0, .int .i64 P, .int .i64 a2] 111))) (m2 + 1))
      )
    go_region_held3 (fun w' => w'.cell? ⟨gs, 0, none⟩ = some (.pointer (some ⟨g, 0, none⟩)) ∧ w'.cell? ⟨gs, 1, none⟩ = some (.slice A L.length c) ∧ w'.cell? ⟨w1.heap.size, 1, none⟩ = some (.int .i64 P)) (first | exact ⟨k0, k1, y1⟩ | exact ⟨d0, d1, z1⟩)
      (first
      | (go_at_call 78; with_reducible refine (hof P _ hBD).mono ?_; rintro e w3 ⟨v3, rfl, hown3, hB3⟩; obtain ⟨A3, c3, e3, hc3, hC3⟩ := C_of_ints hown3; subst e3; have hBw3 := hBD.trans (hB3.mono hBD.size); have hVw := hVD.trans (hB3.mono hVD.size); have k0 := cell_below' d0 hVw; have k1 := cell_below' d1 hVw; have y1 := cell_below' z1 hVw))
    all_goals
      go_wp2_with fail
      have k0 := GW.cell k0
      have k1 := GW.cell k1
      have y1 := GW.cell y1
      refine wp_region_grown (by kernel_rfl) (by kernel_rfl) ?_
      repeat (first | go_big_quiet_step (first | (go_at_call 87; exact Hlp.Calls.grown _ (himp _ (GW.below hBw3 _) _ _ (Kd.C_below hC3 (Subtype.property _)) hc3))) | quiet_step (fail))
      refine wpQuiet_nil ?_
      rintro W8 ⟨⟨W, hW8⟩, rfl⟩
      go_wp2
      go_ret2
      exact ⟨_, rfl, World.ownsRow_nil _ _ _ _, hBw3.trans (hW8.mono hBw3.size)⟩
  rw [if_pos hal]
  rw [decide_eq_true hal] at himp
  clear hal
  go_enter Try.func49, Try.ntmps49
  go_wp2_with (first
    | (go_at_call 76; with_reducible refine (hlit _ (Below.refl _ _)).mono ?_; rintro e w1 ⟨rfl, hB1⟩; have hBV : Below w.heap.size w (w1.alloc (.cells #[.int .i64 a0, .int .i64 P, .int .i64 a2] 111)) := hB1.alloc hB1.size _; have d0 := cell_below' c0 hBV; have d1 := cell_below' c1 hBV; obtain ⟨z0, z1, z2⟩ := box_cells w1 (.int .i64 a0) (.int .i64 P) (.int .i64 a2))
    | (go_at_call 77; with_reducible refine (hcont _ hBV).mono ?_; rintro e w2 ⟨rfl, ⟨m2, rfl⟩⟩; have hBD := pw_below_drewN hBV (m2 + 1); have hVD := pw_below_drewN (Below.refl (w1.alloc (.cells #[.int .i64 a0, .int .i64 P, .int .i64 a2] 111)).heap.size (w1.alloc (.cells #[.int .i64 a0, .int .i64 P, .int .i64 a2] 111))) (m2 + 1))
    )
  go_region_held3 (fun w' => w'.cell? ⟨gs, 0, none⟩ = some (.pointer (some ⟨g, 0, none⟩)) ∧ w'.cell? ⟨gs, 1, none⟩ = some (.slice A L.length c) ∧ w'.cell? ⟨w1.heap.size, 1, none⟩ = some (.int .i64 P)) (first | exact ⟨k0, k1, y1⟩ | exact ⟨d0, d1, z1⟩)
    (first
    | (go_at_call 78; with_reducible refine (hof P _ hBD).mono ?_; rintro e w3 ⟨v3, rfl, hown3, hB3⟩; obtain ⟨A3, c3, e3, hc3, hC3⟩ := C_of_ints hown3; subst e3; have hBw3 := hBD.trans (hB3.mono hBD.size); have hVw := hVD.trans (hB3.mono hVD.size); have k0 := cell_below' d0 hVw; have k1 := cell_below' d1 hVw; have y1 := cell_below' z1 hVw))
  all_goals
    go_wp2_with fail
    have k0 := GW.cell k0
    have k1 := GW.cell k1
    have y1 := GW.cell y1
    refine wp_region_grown (by kernel_rfl) (by kernel_rfl) ?_
    repeat (first | go_big_quiet_step (first | (go_at_call 87; exact Hlp.Calls.grown _ (himp _ (GW.below hBw3 _) _ _ (Kd.C_below hC3 (Subtype.property _)) hc3))) | quiet_step (fail))
    refine wpQuiet_nil ?_
    rintro W8 ⟨⟨W, hW8⟩, rfl⟩
    have hown8 := Hlp.own_base (Hlp.own_below hown3 hW8) hBD.size
    clear k0 k1 y1
    have hBw8 := hBw3.trans (hW8.mono hBw3.size)
    have hg8 := blk_below h4 hBw8
    have hx8 := blk_below (blk_new w1 (.cells #[.int .i64 a0, .int .i64 P, .int .i64 a2] 111)) (hVw.trans (hW8.mono hVw.size))
    have n0 := cell_far hg8 0 _ rfl
    have ny := cell_far hx8 1 _ rfl
    have hwn : IntKind.i64.wrap (-x) = -x := by rw [IntKind.wrap_i64]; omega
    go_wp2_with fail
    have hsubM : ∀ y ∈ ofL l P L ++ [-x], -16777216 ≤ y ∧ y ≤ 16777216 := fun y hy => by
      rw [List.mem_append] at hy
      rcases hy with hy | hy
      · exact hin3 y hy
      · simp at hy; omega
    have hEl := expl_len l P 1 ((ofL l P L ++ [-x]).length + 1) (ofL l P L ++ [-x]) 0
    have hEm : In64 (expl l P 1 (ofL l P L ++ [-x])) := fun y hy => hsubM y (expl_mem l P 1 _ _ _ y hy)
    have hEl2 : (expl l P 1 (ofL l P L ++ [-x])).length ≤ 101 := by
      unfold expl
      rw [List.length_append, List.length_singleton] at hEl ⊢
      omega
    obtain ⟨kn, hkn⟩ := (neg_ev (expl l P 1 (ofL l P L ++ [-x])) (by omega) hEm).rounds
    have hex := fun W (hb : Below w.heap.size w W) A5 c5 (hC5 : Kd.C (Kd.int .i64) W A5 (ofL l P L ++ [-x]).length (ofL l P L ++ [-x])) (hc5 : (ofL l P L ++ [-x]).length ≤ c5) => expl_calls (hT.below hb) P 1 A5 c5 (ofL l P L ++ [-x]) hC5 hc5 (by rw [List.length_append, List.length_singleton]; omega) (by omega) (fun y hy => by have := hsubM y hy; omega) hs1 hs2 hs3
    have hng := fun W A6 c6 hC6 hc6 => order_negated.calls kn A6 c6 (expl l P 1 (ofL l P L ++ [-x])) _ W hC6 hc6 hkn
    rw [List.length_append, List.length_singleton, show ((1 : Nat) : Int) = 1 from rfl] at hex
    clear hEl hkn hEm hsubM
    generalize hE : expl l P 1 (ofL l P L ++ [-x]) = E at hng hex hEl2
    have HE := Aside0.mk hE
    clear hE
    clear himp hcont hof hlit hT h1 h2 h3 h4 h6 hVw hVD hBw3 hBD hown3 hB3 hC3 hW8 hBV hB1 hin hkc c0 c1 d0 d1 z0 z1 z2 k0 k1 y1 hc3 hin3
    have eg81 : ∀ args w, (callFunc 81 args).run Try.prog w = .ok (.enter 81 args) w := enters_of Try.func81 (by kernel_rfl) rfl
    have eg80 : ∀ args w, (callFunc 80 args).run Try.prog w = .ok (.enter 80 args) w := enters_of Try.func80 (by kernel_rfl) rfl
    have HX := Aside0.mk hex
    have HN := Aside0.mk hng
    clear hex hng
    go_region_held3 (fun w' => w'.cell? ⟨gs, 0, none⟩ = some (.pointer (some ⟨g, 0, none⟩)) ∧ w'.cell? ⟨w1.heap.size, 1, none⟩ = some (.int .i64 P)) (first | exact ⟨s0, s1⟩ | exact ⟨r0, r1⟩ | exact ⟨q0, q1⟩ | (refine ⟨cell_below' n0 ?_, cell_below' ny ?_⟩ <;> (repeat (first | exact Below.refl _ _ | apply below_drew1 | refine Below.alloc ?_ (Nat.le_refl _) _))))
      (first
      | (refine step_append_lies _ rfl (.tmp 57) (.tmp 60) 46 rfl w.heap.size 3 i0 (.int .i64 0) 1 8 Try.underlying46 hi hz0 hz1 hz2 rfl (by decide) _ _ _ rfl (hown8.alloc _) ⟨W8.heap.size, 0, none⟩ 1 1 [.int .i64 (-x)] rfl rfl (cell_one_new W8 _ _) (by simp [Value.oneCell']) (by decide) (by unfold maxLen; omega) (by omega) (by have := hBw8.size; simp; omega) _ rfl ?_; intro g5 c5 w5 hown5 hgrow5 hat5 hlt5; have hg5 := blk_grown (blk_drew (blk_alloc hg8 (.cells #[.int .i64 (-x)] 3))) hgrow5 (Hlp.own_ne (hown8.alloc (.cells #[.int .i64 (-x)] 3)) (blk_alloc hg8 (.cells #[.int .i64 (-x)] 3)) (by simp)); have hx5 := blk_grown (blk_drew (blk_alloc hx8 (.cells #[.int .i64 (-x)] 3))) hgrow5 (Hlp.own_ne (hown8.alloc (.cells #[.int .i64 (-x)] 3)) (blk_alloc hx8 (.cells #[.int .i64 (-x)] 3)) (by simp)); have r0 := cell_far hg5 0 _ rfl; have r1 := cell_far hx5 1 _ rfl; have hB5 : Below w.heap.size w w5 := (below_drew1 (hBw8.alloc hBw8.size (.cells #[.int .i64 (-x)] 3))).grown hgrow5 (by have := hBw8.size; simp; omega) (fun q e => (hown8.lt _ e).1); obtain ⟨A5, c5', e5, hc5, hC5⟩ := C_of_ints (int_app hown5); obtain ⟨eA, eL, ec⟩ := Value.slice.inj e5; clear eL; subst eA ec; rw [List.length_append, List.length_singleton] at hc5 hC5; clear hgrow5 hown5 hat5 hlt5 hg5 hx5 hg8 hx8 hown8 n0 ny e5)
      | (refine Hlp.step_call rfl 81 [.tmp 54, .tmp 56, .tmp 61, .const (.int .i64 1)] #[71, 3, 46, 3] rfl [.pointer (some ⟨g, 0, none⟩), .int .i64 P, .slice (some ⟨g5, 0, none⟩) ((ofL l P L).length + 1) c5, .int .i64 1] rfl eg81 ?_; refine (HX.out _ hB5 _ _ hC5 hc5).mono ?_; rintro e w6 ⟨v6, rfl, hown6, hB6⟩; obtain ⟨A6, c6, e6, hc6, hC6⟩ := C_of_ints hown6; subst e6; have hBw6 := hB5.trans (hB6.mono hB5.size); have q0 := cell_below' r0 hB6; have q1 := cell_below' r1 hB6; refine ⟨_, rfl, ?_⟩)
      | (refine Hlp.step_call rfl 80 [.tmp 62] #[46] rfl [.slice A6 E.length c6] rfl eg80 ?_; refine (HN.out _ _ _ hC6 hc6).mono ?_; rintro e w7 ⟨v7, rfl, hR7, hB7⟩; have hown7 := own_of_R hR7; have s0 := cell_below' q0 hB7; have s1 := cell_below' q1 hB7; refine ⟨_, rfl, ?_⟩))
    all_goals
      go_wp2
      go_ret2
      exact ⟨v7, rfl, by rw [HE.out]; exact Hlp.own_base hown7 hBw6.size, hBw6.trans (hB7.mono hBw6.size)⟩
end Go.Proofs.Ytcebjhbphcoboaa.Ato
namespace Go.Proofs.Ytcebjhbphcoboaa.Ato
open Go Go.RowKit Go.Proofs.Ytcebjhbphcoboaa.X Go.Proofs.Ytcebjhbphcoboaa.Hlp Go.Proofs.YtcebjhbphcoboaaW.PrintWords Go.Proofs.YtcebjhbphcoboaaW.PrintLast Go.Proofs.YtcebjhbphcoboaaW.PrintMore Go.Proofs.Ytcebjhbphcoboaa.Aid Go.Proofs.Ytcebjhbphcoboaa.Clean12
attribute [local go_sem] max2_int min2_int max_two min_two
set_option linter.unusedVariables false
set_option linter.unusedSimpArgs false
/-- The literals of a package, and one more. -/
def asM (l L : List Int) (x : Int) : List Int := ofL l (litA l x).f1 L ++ [x]
/-- An assertion's error; its conflict. -/
def asE (l L : List Int) (x : Int) : Int :=
  if litOk l x = false then 1 else if x ∈ L then 6 else if -x ∈ L then 10 else
  if alw l (litA l x).f1 (asM l L x) = [] then 18 else 0
def asC (l L : List Int) (x : Int) : List Int := if asE l L x = 18 then negL (expl l (litA l x).f1 0 (asM l L x)) else []
set_option maxHeartbeats 2000000 in
set_option maxRecDepth 100000 in
theorem assert_no {W0 : World} {b0 g : Nat} {l : List Int} {w : World} {base gs : Nat} {lv : Value} {L : List Int} (h : SO W0 b0 g l w base gs lv L) (x : Int) (hxx : -9223372036854775808 ≤ x ∧ x ≤ 9223372036854775807) (hs : Szs l) (hL : L.length ≤ 100) (hx : In64 L) (hE : litOk l x = false ∨ x ∈ L ∨ -x ∈ L) :
    Calls Try.prog 42 #[.pointer (some ⟨gs, 0, none⟩), .int .i64 x] w fun e w' => e = .returned (.tuple #[.slice none 0 0, .int .i64 (asE l L x)]) ∧ Below w.heap.size w w' := by
  have hT := h.at_
  obtain ⟨hs1, hs2, hs3⟩ := id hs
  obtain ⟨h1, h2, h3, h4, h5, h6⟩ := h
  obtain ⟨A, c, rfl, hc, hC⟩ := C_of_cut h6
  obtain ⟨kc, hkc⟩ := contains_ev L (by omega) x
  obtain ⟨kd, hkd⟩ := contains_ev L (by omega) (-x)
  have hlit := fun W (hb : Below w.heap.size w W) => lit_calls (hT.below hb) x (by omega) hs1 hs2 hs3
  have hcont := fun W (hb : Below w.heap.size w W) => slices_Contains_int_int.calls kc A c L x _ W (Kd.C_below hC hb) hc hkc
  have hcond := fun W (hb : Below w.heap.size w W) => slices_Contains_int_int.calls kd A c L (-x) _ W (Kd.C_below hC hb) hc hkd
  have c0 := cell_far h4 0 _ rfl
  have c1 := cell_far h4 1 _ rfl
  unfold asE
  obtain ⟨a0, P, a2, hA⟩ : ∃ a0 P a2, litA l x = ⟨a0, P, a2⟩ := ⟨_, _, _, rfl⟩
  rw [hA] at hlit
  clear hA
  dsimp only at hlit
  by_cases hok : litOk l x = true
  case neg =>
    rw [Bool.not_eq_true] at hok
    rw [hok] at hlit
    rw [if_pos hok]
    clear hcont hcond hE
    go_enter Try.func42, Try.ntmps42
    go_wp2_with (first
      | (go_at_call 76; with_reducible refine (hlit _ (Below.refl _ _)).mono ?_; rintro e w1 ⟨rfl, hB1⟩))
    go_ret2
    exact ⟨rfl, hB1.alloc hB1.size _⟩
  rw [if_neg (by rw [hok]; decide)]
  have hxi := litOk_in hs3 hok
  have hwn : IntKind.i64.wrap (-x) = -x := by rw [IntKind.wrap_i64]; omega
  rw [hok] at hlit hE
  by_cases hm : x ∈ L
  · rw [if_pos hm]
    rw [decide_eq_true hm] at hcont
    clear hcond hm hE
    go_enter Try.func42, Try.ntmps42
    go_wp2_with (first
      | (go_at_call 76; with_reducible refine (hlit _ (Below.refl _ _)).mono ?_; rintro e w1 ⟨rfl, hB1⟩; have hBV : Below w.heap.size w (w1.alloc (.cells #[.int .i64 a0, .int .i64 P, .int .i64 a2] 111)) := hB1.alloc hB1.size _; have d0 := cell_below' c0 hBV; have d1 := cell_below' c1 hBV)
      | (go_at_call 77; with_reducible refine (hcont _ hBV).mono ?_; rintro e w2 ⟨rfl, ⟨m2, rfl⟩⟩))
    go_ret2
    exact ⟨rfl, pw_below_drewN hBV _⟩
  rw [if_neg hm]
  rw [decide_eq_false hm] at hcont
  have hn : -x ∈ L := by rcases hE with h | h | h; (exact absurd h (by decide)); (exact absurd h hm); exact h
  rw [if_pos hn]
  rw [decide_eq_true hn] at hcond
  clear hm hn hE
  go_enter Try.func42, Try.ntmps42
  go_wp2_with (first
    | (go_at_call 76; with_reducible refine (hlit _ (Below.refl _ _)).mono ?_; rintro e w1 ⟨rfl, hB1⟩; have hBV : Below w.heap.size w (w1.alloc (.cells #[.int .i64 a0, .int .i64 P, .int .i64 a2] 111)) := hB1.alloc hB1.size _; have d0 := cell_below' c0 hBV; have d1 := cell_below' c1 hBV)
    | (go_at_call 77; with_reducible refine (hcont _ hBV).mono ?_; rintro e w2 ⟨rfl, ⟨m2, rfl⟩⟩; have hBV2 := pw_below_drewN hBV m2)
    | (go_at_call 77; with_reducible refine (hcond _ hBV2).mono ?_; rintro e w3 ⟨rfl, ⟨m3, rfl⟩⟩; have hBV3 := pw_below_drewN hBV2 m3))
  go_ret2
  exact ⟨rfl, pw_below_drewN hBV _⟩
end Go.Proofs.Ytcebjhbphcoboaa.Ato
