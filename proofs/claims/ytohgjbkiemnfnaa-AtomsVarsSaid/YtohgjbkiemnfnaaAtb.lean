/- The table of atoms: a variable's atom (by floats, as the code has it). Walks by hand. -/
import Derived.Test.YtohgjbkiemnfnaaAtl
import Derived.Test.YtohgjbkiemnfnaaAtf
import Derived.Test.YtohgjbkiemnfnaaLab
import Derived.WalkLawsBesides
namespace Go.Proofs.Ytohgjbkiemnfnaa.Ato
open Go Go.RowKit Go.Proofs.Ytohgjbkiemnfnaa.X Go.Proofs.Ytohgjbkiemnfnaa.Hlp Go.Proofs.YtohgjbkiemnfnaaW.PrintWords Go.Proofs.YtohgjbkiemnfnaaW.PrintLast Go.Proofs.YtohgjbkiemnfnaaW.PrintMore Go.Proofs.Ytohgjbkiemnfnaa.Aid
attribute [local go_sem] max2_int min2_int max_two min_two
set_option linter.unusedVariables false
set_option linter.unusedSimpArgs false
set_option maxRecDepth 100000 in
theorem ends_calls {w : World} {base g : Nat} {l : List Int} (h : AT w base g l) (p : Nat) (hp : p < l.length) (hg : 0 ≤ l.getD p 0 ∧ l.getD p 0 ≤ 16777216) (hb : 1 ≤ beg l p ∧ beg l p ≤ 16777217) :
    Calls Try.prog 56 #[.pointer (some ⟨g, 0, none⟩), .int .i64 p] w fun e w' => e = .returned (.complex .f64 (floatOfInt .f64 (beg l p)) (floatOfInt .f64 (beg l p + wd (l.getD p 0)))) ∧ Below w.heap.size w w' := by
  obtain ⟨bv, sv, h1, h2, h3, h4⟩ := h
  obtain ⟨pb, qb, rfl⟩ := Hlp.own_slice h3
  obtain ⟨ps, qs, rfl⟩ := Hlp.own_slice h4
  obtain ⟨rb, rfl⟩ := addr_of h3 (by omega)
  obtain ⟨rs, rfl⟩ := addr_of h4 (by omega)
  have hc0 := cell_far h1 0 _ rfl
  have hc1 := cell_far h1 1 _ rfl
  have hcb := row_cell h3 p (.int .i64 (beg l p)) (by simp [ints, begs, beg, hp])
  have hcs := row_cell h4 p (.int .i64 (l.getD p 0)) (by simp [ints, hp])
  have hp2 : (p : Int) < (l.length : Int) := by omega
  clear h1 h3 h4
  generalize l.getD p 0 = n at *
  generalize beg l p = b at *
  have hw0 : 0 < wd n ∧ wd n ≤ 100000000 := by unfold wd; omega
  have hwc := fun k => width_calls n hg.1 hg.2 (w.drewN k)
  generalize hwz : wd n = y at *
  clear hwz
  have hwr : IntKind.i64.wrap (b + y) = b + y := by rw [IntKind.wrap_i64]; omega
  go_enter Try.func56, Try.ntmps56
  go_wp2_with fail
  go_quiet (first | (go_at_call 55; exact Calls.quiet_of_same (hwc _)))
  go_wp2
  go_ret
  exact ⟨rfl, pw_below_drewN (Below.refl _ _) _⟩
set_option maxRecDepth 100000 in
theorem atom_none {w : World} {base g : Nat} {l : List Int} (h : AT w base g l) (v : Int) (hv : v < 1 ∨ tot l < v) :
    Calls Try.prog 19 #[.pointer (some ⟨g, 0, none⟩), .int .i64 v] w fun e w' => e = .returned (.tuple #[.agg #[.int .i64 0, .int .i64 0, .int .i64 0], .bool false]) ∧ Below w.heap.size w w' := by
  obtain ⟨bv, sv, h1, h2, h3, h4⟩ := h
  have hB : Below w.heap.size w (w.alloc (.cells #[.int .i64 0, .int .i64 0, .int .i64 0] 24)) := (Below.refl _ _).alloc (Nat.le_refl _) _
  have hc2 := cell_below' (cell_far h1 2 _ rfl) hB
  have hbk := blk_new w (.cells #[.int .i64 0, .int .i64 0, .int .i64 0] 24)
  generalize tot l = T at *
  by_cases h0 : v < 1
  · go_enter Try.func19, Try.ntmps19
    go_wp2
    refine Lab.wp_scope_lab (Lab.scopeOf Try.f19) ?sc 1 ?_
    case sc => kernel_rfl
    go_wp2
    (try simp only [Exit.then, Exit.inBlock, Lab.gotos])
    refine bodyPost_ret (results_ct rfl _ _ w.heap.size 24 #[.int .i64 0, .int .i64 0, .int .i64 0] (0, 0) _ rfl hbk Try.underlying24 rfl rfl) rfl ?_
    exact ⟨rfl, hB⟩
  · have h0' : T < v := by omega
    go_enter Try.func19, Try.ntmps19
    go_wp2
    refine Lab.wp_scope_lab (Lab.scopeOf Try.f19) ?sc 1 ?_
    case sc => kernel_rfl
    go_wp2
    (try simp only [Exit.then, Exit.inBlock, Lab.gotos])
    refine bodyPost_ret (results_ct rfl _ _ w.heap.size 24 #[.int .i64 0, .int .i64 0, .int .i64 0] (0, 0) _ rfl hbk Try.underlying24 rfl rfl) rfl ?_
    exact ⟨rfl, hB⟩
theorem begs_le {l : List Int} (hn : ∀ n ∈ l, 0 ≤ n ∧ n ≤ 16777216) (ht : tot l ≤ 16777216) (p : Nat) : 1 ≤ beg l p ∧ beg l p ≤ 16777217 := by
  have h0 := beg_pos (fun n h => (hn n h).1) p
  have := tot_le (fun n h => (hn n h).1) p
  refine ⟨h0, ?_⟩
  unfold beg; omega
theorem cmp_lt {v e : Int} (h : v < e) (h0 : 0 < v) (h1 : e < 100000000) : FloatKind.f64.format.order (floatOfInt .f64 v) (floatOfInt .f64 e) = some .lt := by
  rw [order_int v e h0 (by omega) (by omega) (by omega)]
  simp [compare, compareOfLessAndEq, h]
theorem cmp_ge {v e : Int} (h : e ≤ v) (h0 : 0 < e) (h1 : v < 100000000) : FloatKind.f64.format.order (floatOfInt .f64 v) (floatOfInt .f64 e) = some .gt ∨ FloatKind.f64.format.order (floatOfInt .f64 v) (floatOfInt .f64 e) = some .eq := by
  rw [order_int v e (by omega) (by omega) h0 (by omega)]
  by_cases he : v = e
  · right; simp [compare, compareOfLessAndEq, he]
  · left
    have : ¬ v < e := by omega
    simp [compare, compareOfLessAndEq, he, this]
theorem below_box {w w1 : World} (h : Below w.heap.size w w1) (n : Nat) (a b c : Value) : Below w.heap.size w ((((w1.drewN n).setCell ⟨w.heap.size, 0, none⟩ a).setCell ⟨w.heap.size, 1, none⟩ b).setCell ⟨w.heap.size, 2, none⟩ c) := by
  have hs := h.size
  have hd : (w1.drewN n).heap.size = w1.heap.size := rfl
  refine (((pw_below_drewN h n).grown (grown_set _ w.heap.size 0 _) (by omega) (by rintro q ⟨⟩; exact Nat.le_refl _)).grown (grown_set _ w.heap.size 1 _) (by simp; omega) (by rintro q ⟨⟩; exact Nat.le_refl _)).grown (grown_set _ w.heap.size 2 _) (by simp; omega) (by rintro q ⟨⟩; exact Nat.le_refl _)
/-- The atom of a variable. -/
def atomP (l : List Int) (v : Int) (a : S24) : Prop := ∃ p, p < l.length ∧ beg l p ≤ v ∧ v < beg l p + wd (l.getD p 0) ∧ a = atP (l.getD p 0) p (v - beg l p - 1)
set_option maxHeartbeats 2000000 in
set_option maxRecDepth 100000 in
theorem atom_calls {w : World} {base g : Nat} {l : List Int} (h : AT w base g l) (v : Int) (hl4 : l.length ≤ 4096) (hn : ∀ n ∈ l, 0 ≤ n ∧ n ≤ 16777216) (ht : tot l ≤ 16777216) (hv1 : 1 ≤ v) (hv2 : v ≤ tot l) :
    Calls Try.prog 19 #[.pointer (some ⟨g, 0, none⟩), .int .i64 v] w fun e w' => ∃ a, atomP l v a ∧ e = .returned (.tuple #[.agg #[.int .i64 a.f0, .int .i64 a.f1, .int .i64 a.f2], .bool true]) ∧ Below w.heap.size w w' := by
  obtain ⟨bv, sv, h1, h2, h3, h4⟩ := id h
  obtain ⟨pb, qb, rfl⟩ := Hlp.own_slice h3
  obtain ⟨ps, qs, rfl⟩ := Hlp.own_slice h4
  have hB : Below w.heap.size w (w.alloc (.cells #[.int .i64 0, .int .i64 0, .int .i64 0] 24)) := (Below.refl _ _).alloc (Nat.le_refl _) _
  have hc2 := cell_below' (cell_far h1 2 (.int .i64 (tot l)) rfl) hB
  have hbk := blk_new w (.cells #[.int .i64 0, .int .i64 0, .int .i64 0] 24)
  have hvl : v < beg l l.length := by unfold beg; rw [List.take_length]; omega
  have hl0 : 0 < l.length := by
    rcases Nat.eq_zero_or_pos l.length with e | e
    · rw [e] at hvl; simp [beg, tot] at hvl; omega
    · exact e
  have HT := Aside0.mk ht
  have HV := Aside0.mk hvl
  have HV2 := Aside0.mk hv2
  obtain ⟨T, hT⟩ : ∃ T, tot l = T := ⟨_, rfl⟩
  rw [hT] at hc2 hv2 ht
  have hv3 : ¬ v < 1 := by omega
  have hv4 : ¬ T < v := by omega
  clear hT hvl
  go_enter Try.func19, Try.ntmps19
  go_wp2
  refine Lab.wp_scope_lab (Lab.scopeOf Try.f19) ?sc (l.length + 1) ?_
  case sc => kernel_rfl
  go_wp2
  go_step3
  go_step
  (try go_step)
  refine Lab.wp_at_label (l := 0) (fun a0_ kq a_ w_ => ∃ u6 u8 u24 u25 u26 u27 u28 u29 u30 u31 u32 : Value, (∃ p : Nat, p < l.length ∧ kq = l.length - p ∧ u6 = .int .i64 p ∧ beg l p ≤ v ∧ Below w.heap.size w w_ ∧ w_.heap[w.heap.size]? = some (.cells #[.int .i64 0, .int .i64 0, .int .i64 0] 24 (0, 0))) ∧ a_ = (((((((((((a0_.put (some 6) u6).put (some 8) u8).put (some 24) u24).put (some 25) u25).put (some 26) u26).put (some 27) u27).put (some 28) u28).put (some 29) u29).put (some 30) u30).put (some 31) u31).put (some 32) u32)) l.length ?fl (by omega) ?atStart ?round
  case fl => kernel_rfl
  case atStart =>
    (repeat apply Exists.intro)
    refine ⟨?rel, ?fr⟩
    case fr => (simp only [Act.put, List.setIfInBounds_toArray, List.set_cons_zero, List.set_cons_succ] <;> rfl)
    case rel => exact ⟨0, hl0, rfl, rfl, by simp [beg, tot]; omega, hB, hbk⟩
  case round =>
    intro gk a_ wr hle_ hinv HIH
    obtain ⟨u6, u8, u24, u25, u26, u27, u28, u29, u30, u31, u32, ⟨p, hp, hgk, rfl, hbp, hW, hbw⟩, rfl⟩ := hinv
    subst hgk
    simp only [Act.put, List.setIfInBounds_toArray, List.set_cons_zero, List.set_cons_succ]
    have hTW := h.below hW
    have hbeg := begs_le hn HT.out p
    have hgd := hn (l.getD p 0) (by simp [List.getD, hp])
    have hen := fun W (hb : Below w.heap.size w W) => ends_calls (h.below hb) p hp hgd hbeg
    have hbs := beg_succ l p hp
    have hbs2 := begs_le hn HT.out (p + 1)
    have hw0 : 0 < wd (l.getD p 0) := by unfold wd; omega
    have hvl := HV.out
    have HAT : v < beg l p + wd (l.getD p 0) → atomP l v (atP (l.getD p 0) p (v - beg l p - 1)) := fun hx => ⟨p, hp, hbp, hx, rfl⟩
    by_cases hlt : v < beg l p + wd (l.getD p 0)
    · have hvt := HV2.out
      have htt := HT.out
      have hcmp := cmp_lt (v := v) (e := beg l p + wd (l.getD p 0)) hlt (by omega) (by omega)
      have HAT := HAT hlt
      obtain ⟨rb, rfl⟩ := addr_of h3 (by omega)
      obtain ⟨rs, rfl⟩ := addr_of h4 (by omega)
      have hc0 := cell_far h1 0 _ rfl
      have hc1 := cell_far h1 1 _ rfl
      have hcb := row_cell h3 p (.int .i64 (beg l p)) (by simp [ints, begs, beg, hp])
      have hcs := row_cell h4 p (.int .i64 (l.getD p 0)) (by simp [ints, hp])
      have hpI : (p : Int) < (l.length : Int) := by omega
      clear h1 h3 h4 HIH hbs hbs2 hbk hB hc2
      generalize l.getD p 0 = n at *
      generalize beg l p = b at *
      generalize hE : b + wd n = E at hcmp hen hlt
      unfold atP at HAT
      have hpp : (n < 0 → False) := by omega
      by_cases hm : n - 1 < 0
      · have hk0 : v - b - 1 < 0 := by unfold wd at hE; omega
        rw [if_pos hk0] at HAT
        clear htt hvt hlt hE
        go_wp2_with (first
          | (go_at_call 56; with_reducible refine (hen _ hW).mono ?_; rintro e w1 ⟨rfl, hB1⟩; have hW1 := hW.trans (hB1.mono hW.size); have hbw1 := blk_below hbw hB1; have x0 := cell_below' hc0 hW1; have x1 := cell_below' hc1 hW1; have xb := cell_below' hcb hW1; have xs := cell_below' hcs hW1; have z0 := cell_far hbw1 0 _ rfl; have z1 := cell_far hbw1 1 _ rfl; have z2 := cell_far hbw1 2 _ rfl; have f0 := blk_frozen hbw1 0; have f1 := blk_frozen hbw1 1; have f2 := blk_frozen hbw1 2))
        go_quiet (fail)
        go_wp2_with fail
        (try simp only [Exit.then, Exit.inBlock, Lab.gotos])
        refine bodyPost_ret (results_ct rfl _ _ w.heap.size 24 #[.int .i64 0, .int .i64 p, .int .i64 0] (0, 0) _ rfl (blk_put (blk_put (blk_put (blk_drewN hbw1 _) 0 _ rfl) 1 _ rfl) 2 _ rfl) Try.underlying24 rfl rfl) rfl ?_
        exact ⟨_, HAT, rfl, below_box hW1 _ _ _ _⟩
      have hm0 : 0 ≤ n - 1 := by omega
      have hm1 : max (n - 1) 0 = n - 1 := by omega
      rw [hm1] at HAT
      clear hm1
      by_cases hk0 : v - b - 1 < 0
      · rw [if_pos hk0] at HAT
        clear htt hvt hlt hE
        go_wp2_with (first
          | (go_at_call 56; with_reducible refine (hen _ hW).mono ?_; rintro e w1 ⟨rfl, hB1⟩; have hW1 := hW.trans (hB1.mono hW.size); have hbw1 := blk_below hbw hB1; have x0 := cell_below' hc0 hW1; have x1 := cell_below' hc1 hW1; have xb := cell_below' hcb hW1; have xs := cell_below' hcs hW1; have z0 := cell_far hbw1 0 _ rfl; have z1 := cell_far hbw1 1 _ rfl; have z2 := cell_far hbw1 2 _ rfl; have f0 := blk_frozen hbw1 0; have f1 := blk_frozen hbw1 1; have f2 := blk_frozen hbw1 2))
        go_quiet (fail)
        go_wp2_with fail
        (try simp only [Exit.then, Exit.inBlock, Lab.gotos])
        refine bodyPost_ret (results_ct rfl _ _ w.heap.size 24 #[.int .i64 0, .int .i64 p, .int .i64 0] (0, 0) _ rfl (blk_put (blk_put (blk_put (blk_drewN hbw1 _) 0 _ rfl) 1 _ rfl) 2 _ rfl) Try.underlying24 rfl rfl) rfl ?_
        exact ⟨_, HAT, rfl, below_box hW1 _ _ _ _⟩
      rw [if_neg hk0] at HAT
      by_cases hk1 : v - b - 1 < n - 1
      · rw [if_pos hk1] at HAT
        clear htt hvt hlt hE
        go_wp2_with (first
          | (go_at_call 56; with_reducible refine (hen _ hW).mono ?_; rintro e w1 ⟨rfl, hB1⟩; have hW1 := hW.trans (hB1.mono hW.size); have hbw1 := blk_below hbw hB1; have x0 := cell_below' hc0 hW1; have x1 := cell_below' hc1 hW1; have xb := cell_below' hcb hW1; have xs := cell_below' hcs hW1; have z0 := cell_far hbw1 0 _ rfl; have z1 := cell_far hbw1 1 _ rfl; have z2 := cell_far hbw1 2 _ rfl; have f0 := blk_frozen hbw1 0; have f1 := blk_frozen hbw1 1; have f2 := blk_frozen hbw1 2))
        go_quiet (fail)
        go_wp2_with fail
        (try simp only [Exit.then, Exit.inBlock, Lab.gotos])
        refine bodyPost_ret (results_ct rfl _ _ w.heap.size 24 #[.int .i64 1, .int .i64 p, .int .i64 (v - b - 1)] (0, 0) _ rfl (blk_put (blk_put (blk_put (blk_drewN hbw1 _) 0 _ rfl) 1 _ rfl) 2 _ rfl) Try.underlying24 rfl rfl) rfl ?_
        exact ⟨_, HAT, rfl, below_box hW1 _ _ _ _⟩
      rw [if_neg hk1] at HAT
      clear htt hvt hlt hE
      go_wp2_with (first
        | (go_at_call 56; with_reducible refine (hen _ hW).mono ?_; rintro e w1 ⟨rfl, hB1⟩; have hW1 := hW.trans (hB1.mono hW.size); have hbw1 := blk_below hbw hB1; have x0 := cell_below' hc0 hW1; have x1 := cell_below' hc1 hW1; have xb := cell_below' hcb hW1; have xs := cell_below' hcs hW1; have z0 := cell_far hbw1 0 _ rfl; have z1 := cell_far hbw1 1 _ rfl; have z2 := cell_far hbw1 2 _ rfl; have f0 := blk_frozen hbw1 0; have f1 := blk_frozen hbw1 1; have f2 := blk_frozen hbw1 2))
      go_quiet (fail)
      go_wp2_with fail
      (try simp only [Exit.then, Exit.inBlock, Lab.gotos])
      refine bodyPost_ret (results_ct rfl _ _ w.heap.size 24 #[.int .i64 2, .int .i64 p, .int .i64 (v - b - 1 - (n - 1))] (0, 0) _ rfl (blk_put (blk_put (blk_put (blk_drewN hbw1 _) 0 _ rfl) 1 _ rfl) 2 _ rfl) Try.underlying24 rfl rfl) rfl ?_
      exact ⟨_, HAT, rfl, below_box hW1 _ _ _ _⟩
    · have hp1 : p + 1 < l.length := by
        refine Classical.byContradiction fun hx => ?_
        have hx2 : p + 1 = l.length := by omega
        rw [← hbs, hx2] at hlt
        omega
      rw [← hbs] at hlt hen
      have hvt := HV2.out
      have htt := HT.out
      have hcmp := cmp_ge (v := v) (e := beg l (p + 1)) (by omega) (by omega) (by omega)
      have HN := Aside0.mk (show beg l (p + 1) ≤ v by omega)
      generalize beg l (p + 1) = E at hcmp hlt hen hbs2
      generalize beg l p = b at hen hbeg hbp
      clear HAT hbs
      clear hvt htt hbs2 hbeg hgd
      rcases hcmp with hc | hc
      · go_wp2_with (first
          | (go_at_call 56; with_reducible refine (hen _ hW).mono ?_; rintro e w1 ⟨rfl, hB1⟩; have hW1 := hW.trans (hB1.mono hW.size)))
        go_step3
        simp only [Exit.then, Exit.inBlock, Lab.gotos]
        refine Lab.again HIH (l.length - (p + 1)) (by omega) (by omega) ?_
        (repeat apply Exists.intro)
        refine ⟨?rel, ?fr⟩
        case fr => (simp only [Act.put, List.setIfInBounds_toArray, List.set_cons_zero, List.set_cons_succ] <;> rfl)
        case rel => exact ⟨p + 1, hp1, rfl, (by first | rfl | (rw [wrap64_in (by omega) (by omega)]; rfl)), HN.out, hW1, blk_below hbw hB1⟩
      · go_wp2_with (first
          | (go_at_call 56; with_reducible refine (hen _ hW).mono ?_; rintro e w1 ⟨rfl, hB1⟩; have hW1 := hW.trans (hB1.mono hW.size)))
        go_step3
        simp only [Exit.then, Exit.inBlock, Lab.gotos]
        refine Lab.again HIH (l.length - (p + 1)) (by omega) (by omega) ?_
        (repeat apply Exists.intro)
        refine ⟨?rel, ?fr⟩
        case fr => (simp only [Act.put, List.setIfInBounds_toArray, List.set_cons_zero, List.set_cons_succ] <;> rfl)
        case rel => exact ⟨p + 1, hp1, rfl, (by first | rfl | (rw [wrap64_in (by omega) (by omega)]; rfl)), HN.out, hW1, blk_below hbw hB1⟩
end Go.Proofs.Ytohgjbkiemnfnaa.Ato
