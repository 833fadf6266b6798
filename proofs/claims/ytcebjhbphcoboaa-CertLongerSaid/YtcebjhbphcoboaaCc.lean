/- Certificates: a step, read. A walk by hand. -/
import Derived.Test.YtcebjhbphcoboaaCa
import Derived.Test.YtcebjhbphcoboaaLab
namespace Go.Proofs.Ytcebjhbphcoboaa.Crt
open Go Go.RowKit Go.Proofs.Ytcebjhbphcoboaa.C Go.Proofs.Ytcebjhbphcoboaa.Hlp Go.Proofs.YtcebjhbphcoboaaW.PrintWords Go.Proofs.YtcebjhbphcoboaaW.PrintLast Go.Proofs.YtcebjhbphcoboaaW.PrintMore Go.Proofs.Ytcebjhbphcoboaa.Aid
attribute [local go_sem] max2_int min2_int max_two min_two
set_option linter.unusedVariables false
set_option linter.unusedSimpArgs false
/-- One literal more. -/
def litV (x : Int) : Int := if Int.tmod x 2 = 1 then -(Int.tdiv x 2) else Int.tdiv x 2
def litS (last a x : Int) (t1 : RS) : RS := if Int.tdiv x 2 ≤ last then failP t1 a 3 else t1
def stpN (b : List Int) : Nat → List Int → Int → RS → List Int × RS
  | 0, C, _, t => (C, t)
  | m + 1, C, last, t => if t.e ≠ 0 then (C, t) else stpN b m (C ++ [litV (nextP b 33554433 t).1]) (Int.tdiv (nextP b 33554433 t).1 2) (litS last t.a (nextP b 33554433 t).1 (nextP b 33554433 t).2)
def knd (k a : Int) (t1 : RS) : RS := if k > 2 then failP t1 a 3 else t1
def stpB (b : List Int) (t : RS) : RS := knd (nextP b 4294967295 t).1 t.a (nextP b 4294967295 t).2
def stepP (b : List Int) (t : RS) : Int × List Int × RS :=
  ((nextP b 4294967295 t).1, stpN b (nextP b 4096 (stpB b t)).1.toNat [] 0 (nextP b 4096 (stpB b t)).2)
theorem results_c {P : Program} {fn : Func} {p : Tmp} {ty : TypeId} (h : fn.results = #[.cell p ty]) (tmps : Array Value) (w : World) (g : Nat) (t : TypeId) (cs : Array Value) (fr : Nat × Nat) (d : TypeDesc)
    (hp : tmps.getD p undef = .pointer (some ⟨g, 0, none⟩)) (hg : w.heap[g]? = some (.cells cs t fr))
    (hu : P.underlying ty = some d) (hd : (match d with | .struct _ | .array _ _ => true | _ => false) = true) (hi : (P.info? ty).map (·.size) = some cs.size) :
    (results fn tmps).run P w = .ok (.agg cs) w := by
  have hp' : tmps[p]?.getD undef = .pointer (some ⟨g, 0, none⟩) := by simpa using hp
  simp [results, h, hp', asAddr, run_loadVar_row w g t ty cs fr d hg hu hd hi]
theorem grown_more' {w W W' : World} {q : Nat} (h : Below w.heap.size w W) (hg : W.grownBy W' (some q)) : w.grownBy W' (some q) := (grown_of_below h (some q)).trans hg
/-- A field of a new box is set. -/
theorem box_put {w0 w W : World} {q B : Nat} {b : List Int} {s : RS} {x y : Value} (hx : W.heap[B]? = some (.cells #[x, y] 95 (0, 0))) (hR : RD w0 W q b s) (hG : w.grownBy W (some q)) (hqb : some B ≠ some q) (hB : w.heap.size ≤ B) (hw : w0.heap.size ≤ w.heap.size) (i : Nat) (v : Value) (cs : Array Value) (hcs : #[x, y].setIfInBounds i v = cs) :
    (W.setCell ⟨B, i, none⟩ v).heap[B]? = some (.cells cs 95 (0, 0)) ∧ RD w0 (W.setCell ⟨B, i, none⟩ v) q b s ∧ w.grownBy (W.setCell ⟨B, i, none⟩ v) (some q) := by
  have hg := grown_set W B i v
  refine ⟨by rw [← hcs]; exact blk_set hx i v, hR.grown hg hqb.symm (fun k hk => by have := Option.some.inj hk; omega), grown_more hG hg (fun k hk => by have := Option.some.inj hk; omega)⟩
set_option maxHeartbeats 4000000 in
set_option maxRecDepth 100000 in
theorem step_calls {w0 w : World} {q : Nat} {b : List Int} {s : RS} (h : RD w0 w q b s) (hb : b.length ≤ 1000000000) (ha : s.a ≤ b.length) : Calls Try.prog 67 #[.pointer (some ⟨q, 0, none⟩)] w fun r w' => ∃ v, r = .returned (.agg #[.int .i64 (stepP b s).1, v]) ∧ w'.ownsRow w.heap.size 3 1 v (stepP b s).2.1.length (ints (stepP b s).2.1) ∧ RD w0 w' q b (stepP b s).2.2 ∧ w.grownBy w' (some q) := by
  obtain ⟨i0, hi, hz0, hz1, hz2⟩ := info_parts infoI'
  obtain ⟨A, c, k1⟩ := h.blk
  have hn0 := fun W (hb' : Below w.heap.size w W) => next_calls (h.below hb') 4294967295 hb ha
  have hni := nextP_in b 4294967295 (by omega) s ha
  have hn2 := fun (t2 : RS) (h2 : t2.a ≤ b.length) W (hR : RD w0 W q b t2) => next_calls hR 4096 hb h2
  unfold stepP stpB
  generalize nextP b 4294967295 s = N at hn0 hni ⊢
  obtain ⟨kd, s1⟩ := N
  dsimp only at hn0 hni ⊢
  have hB : Below w.heap.size w (w.alloc (.cells #[.int .i64 0, .slice none 0 0] 95)) := (Below.refl _ _).alloc (Nat.le_refl _) _
  have hbx := blk_new w (.cells #[.int .i64 0, .slice none 0 0] 95)
  have hk0 := blk_below k1 hB
  have z1 := cell_far hk0 1 _ rfl
  have hn0 := hn0 _ hB
  have hqw : q < w.heap.size := blk_lt k1
  have hw0 : w0.heap.size ≤ w.heap.size := by obtain ⟨_, _, _, _, _, _, k⟩ := h; exact k.size
  have hqb : some w.heap.size ≠ some q := fun e => by have := Option.some.inj e; omega
  by_cases hkd : kd > 2
  · have hkI : 2 < kd := hkd
    rw [show knd kd s.a s1 = failP s1 s.a 3 by unfold knd; rw [if_pos hkd]]
    have hn2 := hn2 (failP s1 s.a 3) (by rw [failP_a]; exact hni.1)
    have hn4 := nextP_in b 4096 (by omega) (failP s1 s.a 3) (by rw [failP_a]; exact hni.1)
    generalize nextP b 4096 (failP s1 s.a 3) = N2 at hn2 hn4 ⊢
    obtain ⟨L, t3⟩ := N2
    dsimp only at hn2 hn4 ⊢
    clear hkd
    go_enter Try.func67, Try.ntmps67
    go_wp2_with fail
    refine Lab.wp_scope_lab (Lab.scopeOf Try.f67) ?sc (4097) ?_
    case sc => kernel_rfl
    go_wp2_with (first
      | (go_at_call 66; with_reducible refine hn0.mono ?_; rintro e1 w1 ⟨rfl, hR1, hG1⟩; have hx1 := blk_grown hbx hG1 hqb; have fx0 := blk_frozen hx1 0; have x10 := cell_far hx1 0 _ rfl; obtain ⟨hx2, hR2, hG2⟩ := box_put hx1 hR1 (grown_more' hB hG1) hqb (Nat.le_refl _) hw0 0 (.int .i64 kd) #[.int .i64 kd, .slice none 0 0] rfl; have x20 := cell_far hx2 0 _ rfl)
      | (go_at_call 68; with_reducible refine (fail_calls hR2 (s.a : Int) 3).mono ?_; rintro e2 w2 ⟨rfl, hR3, hGf2⟩; have hx3 := blk_grown hx2 hGf2 hqb; have hG3 := hG2.trans hGf2; have hn3 := hn2 _ hR3)
      | (go_at_call 66; with_reducible refine hn3.mono ?_; rintro e3 w3 ⟨rfl, hR4, hG4⟩; have hx4 := blk_grown hx3 hG4 hqb; have hG5 := hG3.trans hG4))
    go_step3
    go_step
    (try go_step)
    refine Lab.wp_at_label (l := 0) (fun a0_ kq a_ w_ => ∃ u3 u4 u5 u6 u7 u23 u24 u25 u26 u27 u28 u29 u30 u31 u32 u33 u34 u35 u36 u37 u38 u39 u40 u41 u42 u43 u44 u45 u46 u47 u48 u49 u50 u51 u52 u53 u54 u55 u56 u57 u58 u59 u60 : Value, (∃ (m : Nat) (C : List Int) (last : Int) (t : RS) (u : Value), kq = m ∧ u4 = .int .i64 (m : Int) ∧ u5 = .int .i64 last ∧ C.length + m ≤ 4096 ∧ RD w0 w_ q b t ∧ t.a ≤ b.length ∧ stpN b m C last t = stpN b L.toNat [] 0 t3 ∧ w_.heap[w.heap.size]? = some (.cells #[.int .i64 kd, u] 95 (0, 0)) ∧ w_.ownsRow w.heap.size 3 1 u C.length (ints C) ∧ w.grownBy w_ (some q)) ∧ a_ = (((((((((((((((((((((((((((((((((((((((((((a0_.put (some 3) u3).put (some 4) u4).put (some 5) u5).put (some 6) u6).put (some 7) u7).put (some 23) u23).put (some 24) u24).put (some 25) u25).put (some 26) u26).put (some 27) u27).put (some 28) u28).put (some 29) u29).put (some 30) u30).put (some 31) u31).put (some 32) u32).put (some 33) u33).put (some 34) u34).put (some 35) u35).put (some 36) u36).put (some 37) u37).put (some 38) u38).put (some 39) u39).put (some 40) u40).put (some 41) u41).put (some 42) u42).put (some 43) u43).put (some 44) u44).put (some 45) u45).put (some 46) u46).put (some 47) u47).put (some 48) u48).put (some 49) u49).put (some 50) u50).put (some 51) u51).put (some 52) u52).put (some 53) u53).put (some 54) u54).put (some 55) u55).put (some 56) u56).put (some 57) u57).put (some 58) u58).put (some 59) u59).put (some 60) u60)) L.toNat ?fl (by omega) ?atStart ?round
    case fl => kernel_rfl
    case atStart =>
      (repeat apply Exists.intro)
      refine ⟨?rel, ?fr⟩
      case fr => (simp only [Act.put, List.setIfInBounds_toArray, List.set_cons_zero, List.set_cons_succ] <;> rfl)
      case rel => exact ⟨L.toNat, [], 0, t3, .slice none 0 0, rfl, by rw [Int.toNat_of_nonneg (by omega)], rfl, by simp; omega, hR4, hn4.1, rfl, hx4, World.ownsRow_nil _ _ _ _, hG5⟩
    case round =>
      intro gk a_ wr hle_ hinv HIH
      obtain ⟨u3, u4, u5, u6, u7, u23, u24, u25, u26, u27, u28, u29, u30, u31, u32, u33, u34, u35, u36, u37, u38, u39, u40, u41, u42, u43, u44, u45, u46, u47, u48, u49, u50, u51, u52, u53, u54, u55, u56, u57, u58, u59, u60, ⟨m, C, last, t, u, hgk, rfl, rfl, hom, hR, hta, hco, hbt, hown, hG⟩, rfl⟩ := hinv
      subst hgk
      simp only [Act.put, List.setIfInBounds_toArray, List.set_cons_zero, List.set_cons_succ]
      obtain ⟨p3, c3, rfl⟩ := Hlp.own_slice hown
      obtain ⟨At, ct, hbq⟩ := hR.blk
      have z1t := cell_far hbq 1 _ rfl
      have z3t := cell_far hbq 3 _ rfl
      have xt0 := cell_far hbt 0 _ rfl
      have xt1 := cell_far hbt 1 _ rfl
      have fb0 := blk_frozen hbt 0
      have fb1 := blk_frozen hbt 1
      obtain ⟨yb1, rr1, gg1⟩ := box_put hbt hR hG hqb (Nat.le_refl _) hw0 0 (.int .i64 kd) #[.int .i64 kd, .slice p3 C.length c3] rfl
      obtain ⟨yb2, rr2, gg2⟩ := box_put yb1 rr1 gg1 hqb (Nat.le_refl _) hw0 1 (.slice p3 C.length c3) #[.int .i64 kd, .slice p3 C.length c3] rfl
      have ho2 := (hown.kept (grown_set wr w.heap.size 0 (.int .i64 kd)) (.inr (Hlp.own_ne hown hbt (by simp)).symm)).kept (grown_set (wr.setCell ⟨w.heap.size, 0, none⟩ (.int .i64 kd)) w.heap.size 1 (.slice p3 C.length c3)) (.inr (Hlp.own_ne hown hbt (by simp)).symm)
      cases gk with
      | zero =>
        have HX := Aside0.mk hco
        clear hco
        go_wp2
        (try simp only [Exit.then, Exit.inBlock, Lab.gotos])
        refine bodyPost_ret (results_c rfl _ _ w.heap.size 95 #[.int .i64 kd, .slice p3 C.length c3] (0, 0) _ rfl yb2 Try.underlying95 rfl rfl) rfl ?_
        rw [← HX.out]
        exact ⟨_, rfl, ho2, rr2, gg2⟩
      | succ m =>
        have hz : ((m : Int) + 1 == 0) = false := beq_eq_false_iff_ne.mpr (by omega)
        rw [stpN] at hco
        by_cases he : t.e = 0
        case neg =>
          rw [if_pos he] at hco
          have HX := Aside0.mk hco
          clear hco
          go_wp2
          (try simp only [Exit.then, Exit.inBlock, Lab.gotos])
          refine bodyPost_ret (results_c rfl _ _ w.heap.size 95 #[.int .i64 kd, .slice p3 C.length c3] (0, 0) _ rfl yb2 Try.underlying95 rfl rfl) rfl ?_
          rw [← HX.out]
          exact ⟨_, rfl, ho2, rr2, gg2⟩
        rw [if_neg (fun h => h he)] at hco
        have hef : (t.e != 0) = false := by rw [he]; rfl
        have hm63 : C.length + 1 ≤ maxLen := by unfold maxLen; omega
        have hby8 : (C.length + 1) * 8 ≤ 140737488355328 := by omega
        have hn := next_calls hR 33554433 hb hta
        have hni := nextP_in b 33554433 (by omega) t hta
        generalize nextP b 33554433 t = N at hn hni hco
        obtain ⟨x, t1⟩ := N
        dsimp only at hn hni hco
        have hv0 : 0 ≤ Int.tdiv x 2 ∧ Int.tdiv x 2 ≤ 16777216 := by rw [Int.tdiv_eq_ediv_of_nonneg hni.2.1]; omega
        unfold litV litS at hco
        clear he
        by_cases hod : Int.tmod x 2 = 1
        · rw [if_pos hod] at hco
          have hodb : (Int.tmod x 2 == 1) = true := beq_iff_eq.mpr hod
          by_cases hle : Int.tdiv x 2 ≤ last
          · rw [if_pos hle] at hco
            have HC := Aside0.mk hco
            clear hco
            go_wp2_with (first
              | (go_at_call 66; with_reducible refine hn.mono ?_; rintro e6 w6 ⟨rfl, hR6, hG6⟩; have hx6 := blk_grown hbt hG6 hqb; have hown6 := hown.kept hG6 (.inr (Hlp.own_ne hown hbq (by simp)).symm); have hGw6 := hG.trans hG6; obtain ⟨A6, c6, j6⟩ := hR6.blk; have x61 := cell_far hx6 1 _ rfl)
              | (go_at_call 68; with_reducible refine (fail_calls hR6 (t.a : Int) 3).mono ?_; rintro e7 w7 ⟨rfl, hR7, hGf7⟩; have hx7 := blk_grown hx6 hGf7 hqb; have hown7 := hown6.kept hGf7 (.inr (Hlp.own_ne hown6 j6 (by simp)).symm); have hGw7 := hGw6.trans hGf7; obtain ⟨A7, c7, j7⟩ := hR7.blk; have x71 := cell_far hx7 1 _ rfl)
              | (at_builtin; refine wpList_append_own_at _ rfl _ _ 46 rfl w.heap.size 3 i0 (.int .i64 0) 1 8 Try.underlying46 hi hz0 hz1 hz2 rfl (by decide) _ _ _ rfl (hown7.alloc _) ⟨w7.heap.size, 0, none⟩ 1 1 [.int .i64 (-(Int.tdiv x 2))] rfl rfl (cell_one_new _ _ _) (by simp [Value.oneCell']) hm63 hby8 (Nat.le_trans hGw7.size (World.grownBy_alloc w7 _ none).size) ?_; intro v9 w9 hown9 hgrow9 hnil9 hblk9; obtain ⟨p9, c9, e9⟩ := Hlp.own_slice hown9; subst e9; have hR9 := (hR7.below ((Below.refl _ _).alloc (Nat.le_refl _) (.cells #[.int .i64 (-(Int.tdiv x 2))] 3))).grown hgrow9 (Hlp.own_ne (hown7.alloc (.cells #[.int .i64 (-(Int.tdiv x 2))] 3)) (blk_alloc j7 (.cells #[.int .i64 (-(Int.tdiv x 2))] 3)) (by simp)) (fun k hk => by have := (hown7.lt k hk).1; have := hw0; omega); have hG9 := grown_more (grown_more hGw7 (World.grownBy_alloc _ _ none) (by simp)) hgrow9 (fun k hk => (hown7.lt k hk).1); have hx9 := blk_grown (blk_alloc hx7 (.cells #[.int .i64 (-(Int.tdiv x 2))] 3)) hgrow9 (Hlp.own_ne (hown7.alloc (.cells #[.int .i64 (-(Int.tdiv x 2))] 3)) (blk_alloc hx7 (.cells #[.int .i64 (-(Int.tdiv x 2))] 3)) (by simp)); have fx9 := blk_frozen hx9 1; have x91 := cell_far hx9 1 _ rfl; obtain ⟨hx10, hR10, hG10⟩ := box_put hx9 hR9 hG9 hqb (Nat.le_refl _) hw0 1 (.slice p9 (C.length + 1) c9) #[.int .i64 kd, .slice p9 (C.length + 1) c9] rfl))
            go_step3
            simp only [Exit.then, Exit.inBlock, Lab.gotos]
            refine Lab.again HIH m (by omega) (by omega) ?_
            (repeat apply Exists.intro)
            refine ⟨?rel, ?fr⟩
            case fr => (simp only [Act.put, List.setIfInBounds_toArray, List.set_cons_zero, List.set_cons_succ] <;> rfl)
            case rel => exact ⟨m, C ++ [-(Int.tdiv x 2)], Int.tdiv x 2, failP t1 t.a 3, .slice p9 (C.length + 1) c9, rfl, rfl, rfl, by rw [List.length_append, List.length_singleton]; omega, hR10, by rw [failP_a]; exact hni.1, HC.out, hx10, (int_app hown9).kept (grown_set w9 w.heap.size 1 (.slice p9 (C.length + 1) c9)) (.inr (Hlp.own_ne hown9 hx9 (by simp)).symm), hG10⟩
          · rw [if_neg hle] at hco
            have HC := Aside0.mk hco
            clear hco
            go_wp2_with (first
              | (go_at_call 66; with_reducible refine hn.mono ?_; rintro e6 w6 ⟨rfl, hR6, hG6⟩; have hx6 := blk_grown hbt hG6 hqb; have hown6 := hown.kept hG6 (.inr (Hlp.own_ne hown hbq (by simp)).symm); have hGw6 := hG.trans hG6; obtain ⟨A6, c6, j6⟩ := hR6.blk; have x61 := cell_far hx6 1 _ rfl)
              | (at_builtin; refine wpList_append_own_at _ rfl _ _ 46 rfl w.heap.size 3 i0 (.int .i64 0) 1 8 Try.underlying46 hi hz0 hz1 hz2 rfl (by decide) _ _ _ rfl (hown6.alloc _) ⟨w6.heap.size, 0, none⟩ 1 1 [.int .i64 (-(Int.tdiv x 2))] rfl rfl (cell_one_new _ _ _) (by simp [Value.oneCell']) hm63 hby8 (Nat.le_trans hGw6.size (World.grownBy_alloc w6 _ none).size) ?_; intro v9 w9 hown9 hgrow9 hnil9 hblk9; obtain ⟨p9, c9, e9⟩ := Hlp.own_slice hown9; subst e9; have hR9 := (hR6.below ((Below.refl _ _).alloc (Nat.le_refl _) (.cells #[.int .i64 (-(Int.tdiv x 2))] 3))).grown hgrow9 (Hlp.own_ne (hown6.alloc (.cells #[.int .i64 (-(Int.tdiv x 2))] 3)) (blk_alloc j6 (.cells #[.int .i64 (-(Int.tdiv x 2))] 3)) (by simp)) (fun k hk => by have := (hown6.lt k hk).1; have := hw0; omega); have hG9 := grown_more (grown_more hGw6 (World.grownBy_alloc _ _ none) (by simp)) hgrow9 (fun k hk => (hown6.lt k hk).1); have hx9 := blk_grown (blk_alloc hx6 (.cells #[.int .i64 (-(Int.tdiv x 2))] 3)) hgrow9 (Hlp.own_ne (hown6.alloc (.cells #[.int .i64 (-(Int.tdiv x 2))] 3)) (blk_alloc hx6 (.cells #[.int .i64 (-(Int.tdiv x 2))] 3)) (by simp)); have fx9 := blk_frozen hx9 1; have x91 := cell_far hx9 1 _ rfl; obtain ⟨hx10, hR10, hG10⟩ := box_put hx9 hR9 hG9 hqb (Nat.le_refl _) hw0 1 (.slice p9 (C.length + 1) c9) #[.int .i64 kd, .slice p9 (C.length + 1) c9] rfl))
            go_step3
            simp only [Exit.then, Exit.inBlock, Lab.gotos]
            refine Lab.again HIH m (by omega) (by omega) ?_
            (repeat apply Exists.intro)
            refine ⟨?rel, ?fr⟩
            case fr => (simp only [Act.put, List.setIfInBounds_toArray, List.set_cons_zero, List.set_cons_succ] <;> rfl)
            case rel => exact ⟨m, C ++ [-(Int.tdiv x 2)], Int.tdiv x 2, t1, .slice p9 (C.length + 1) c9, rfl, rfl, rfl, by rw [List.length_append, List.length_singleton]; omega, hR10, hni.1, HC.out, hx10, (int_app hown9).kept (grown_set w9 w.heap.size 1 (.slice p9 (C.length + 1) c9)) (.inr (Hlp.own_ne hown9 hx9 (by simp)).symm), hG10⟩
        · rw [if_neg hod] at hco
          have hev : Int.tmod x 2 = 0 := by rw [Int.tmod_eq_emod_of_nonneg hni.2.1] at hod ⊢; omega
          clear hod
          by_cases hle : Int.tdiv x 2 ≤ last
          · rw [if_pos hle] at hco
            have HC := Aside0.mk hco
            clear hco
            go_wp2_with (first
              | (go_at_call 66; with_reducible refine hn.mono ?_; rintro e6 w6 ⟨rfl, hR6, hG6⟩; have hx6 := blk_grown hbt hG6 hqb; have hown6 := hown.kept hG6 (.inr (Hlp.own_ne hown hbq (by simp)).symm); have hGw6 := hG.trans hG6; obtain ⟨A6, c6, j6⟩ := hR6.blk; have x61 := cell_far hx6 1 _ rfl)
              | (go_at_call 68; with_reducible refine (fail_calls hR6 (t.a : Int) 3).mono ?_; rintro e7 w7 ⟨rfl, hR7, hGf7⟩; have hx7 := blk_grown hx6 hGf7 hqb; have hown7 := hown6.kept hGf7 (.inr (Hlp.own_ne hown6 j6 (by simp)).symm); have hGw7 := hGw6.trans hGf7; obtain ⟨A7, c7, j7⟩ := hR7.blk; have x71 := cell_far hx7 1 _ rfl)
              | (at_builtin; refine wpList_append_own_at _ rfl _ _ 46 rfl w.heap.size 3 i0 (.int .i64 0) 1 8 Try.underlying46 hi hz0 hz1 hz2 rfl (by decide) _ _ _ rfl (hown7.alloc _) ⟨w7.heap.size, 0, none⟩ 1 1 [.int .i64 (Int.tdiv x 2)] rfl rfl (cell_one_new _ _ _) (by simp [Value.oneCell']) hm63 hby8 (Nat.le_trans hGw7.size (World.grownBy_alloc w7 _ none).size) ?_; intro v9 w9 hown9 hgrow9 hnil9 hblk9; obtain ⟨p9, c9, e9⟩ := Hlp.own_slice hown9; subst e9; have hR9 := (hR7.below ((Below.refl _ _).alloc (Nat.le_refl _) (.cells #[.int .i64 (Int.tdiv x 2)] 3))).grown hgrow9 (Hlp.own_ne (hown7.alloc (.cells #[.int .i64 (Int.tdiv x 2)] 3)) (blk_alloc j7 (.cells #[.int .i64 (Int.tdiv x 2)] 3)) (by simp)) (fun k hk => by have := (hown7.lt k hk).1; have := hw0; omega); have hG9 := grown_more (grown_more hGw7 (World.grownBy_alloc _ _ none) (by simp)) hgrow9 (fun k hk => (hown7.lt k hk).1); have hx9 := blk_grown (blk_alloc hx7 (.cells #[.int .i64 (Int.tdiv x 2)] 3)) hgrow9 (Hlp.own_ne (hown7.alloc (.cells #[.int .i64 (Int.tdiv x 2)] 3)) (blk_alloc hx7 (.cells #[.int .i64 (Int.tdiv x 2)] 3)) (by simp)); have fx9 := blk_frozen hx9 1; have x91 := cell_far hx9 1 _ rfl; obtain ⟨hx10, hR10, hG10⟩ := box_put hx9 hR9 hG9 hqb (Nat.le_refl _) hw0 1 (.slice p9 (C.length + 1) c9) #[.int .i64 kd, .slice p9 (C.length + 1) c9] rfl))
            go_step3
            simp only [Exit.then, Exit.inBlock, Lab.gotos]
            refine Lab.again HIH m (by omega) (by omega) ?_
            (repeat apply Exists.intro)
            refine ⟨?rel, ?fr⟩
            case fr => (simp only [Act.put, List.setIfInBounds_toArray, List.set_cons_zero, List.set_cons_succ] <;> rfl)
            case rel => exact ⟨m, C ++ [Int.tdiv x 2], Int.tdiv x 2, failP t1 t.a 3, .slice p9 (C.length + 1) c9, rfl, rfl, rfl, by rw [List.length_append, List.length_singleton]; omega, hR10, by rw [failP_a]; exact hni.1, HC.out, hx10, (int_app hown9).kept (grown_set w9 w.heap.size 1 (.slice p9 (C.length + 1) c9)) (.inr (Hlp.own_ne hown9 hx9 (by simp)).symm), hG10⟩
          · rw [if_neg hle] at hco
            have HC := Aside0.mk hco
            clear hco
            go_wp2_with (first
              | (go_at_call 66; with_reducible refine hn.mono ?_; rintro e6 w6 ⟨rfl, hR6, hG6⟩; have hx6 := blk_grown hbt hG6 hqb; have hown6 := hown.kept hG6 (.inr (Hlp.own_ne hown hbq (by simp)).symm); have hGw6 := hG.trans hG6; obtain ⟨A6, c6, j6⟩ := hR6.blk; have x61 := cell_far hx6 1 _ rfl)
              | (at_builtin; refine wpList_append_own_at _ rfl _ _ 46 rfl w.heap.size 3 i0 (.int .i64 0) 1 8 Try.underlying46 hi hz0 hz1 hz2 rfl (by decide) _ _ _ rfl (hown6.alloc _) ⟨w6.heap.size, 0, none⟩ 1 1 [.int .i64 (Int.tdiv x 2)] rfl rfl (cell_one_new _ _ _) (by simp [Value.oneCell']) hm63 hby8 (Nat.le_trans hGw6.size (World.grownBy_alloc w6 _ none).size) ?_; intro v9 w9 hown9 hgrow9 hnil9 hblk9; obtain ⟨p9, c9, e9⟩ := Hlp.own_slice hown9; subst e9; have hR9 := (hR6.below ((Below.refl _ _).alloc (Nat.le_refl _) (.cells #[.int .i64 (Int.tdiv x 2)] 3))).grown hgrow9 (Hlp.own_ne (hown6.alloc (.cells #[.int .i64 (Int.tdiv x 2)] 3)) (blk_alloc j6 (.cells #[.int .i64 (Int.tdiv x 2)] 3)) (by simp)) (fun k hk => by have := (hown6.lt k hk).1; have := hw0; omega); have hG9 := grown_more (grown_more hGw6 (World.grownBy_alloc _ _ none) (by simp)) hgrow9 (fun k hk => (hown6.lt k hk).1); have hx9 := blk_grown (blk_alloc hx6 (.cells #[.int .i64 (Int.tdiv x 2)] 3)) hgrow9 (Hlp.own_ne (hown6.alloc (.cells #[.int .i64 (Int.tdiv x 2)] 3)) (blk_alloc hx6 (.cells #[.int .i64 (Int.tdiv x 2)] 3)) (by simp)); have fx9 := blk_frozen hx9 1; have x91 := cell_far hx9 1 _ rfl; obtain ⟨hx10, hR10, hG10⟩ := box_put hx9 hR9 hG9 hqb (Nat.le_refl _) hw0 1 (.slice p9 (C.length + 1) c9) #[.int .i64 kd, .slice p9 (C.length + 1) c9] rfl))
            go_step3
            simp only [Exit.then, Exit.inBlock, Lab.gotos]
            refine Lab.again HIH m (by omega) (by omega) ?_
            (repeat apply Exists.intro)
            refine ⟨?rel, ?fr⟩
            case fr => (simp only [Act.put, List.setIfInBounds_toArray, List.set_cons_zero, List.set_cons_succ] <;> rfl)
            case rel => exact ⟨m, C ++ [Int.tdiv x 2], Int.tdiv x 2, t1, .slice p9 (C.length + 1) c9, rfl, rfl, rfl, by rw [List.length_append, List.length_singleton]; omega, hR10, hni.1, HC.out, hx10, (int_app hown9).kept (grown_set w9 w.heap.size 1 (.slice p9 (C.length + 1) c9)) (.inr (Hlp.own_ne hown9 hx9 (by simp)).symm), hG10⟩
  · have hkI : ¬ 2 < kd := hkd
    rw [show knd kd s.a s1 = s1 by unfold knd; rw [if_neg hkd]]
    have hn2 := hn2 (s1) (hni.1)
    have hn4 := nextP_in b 4096 (by omega) (s1) (hni.1)
    generalize nextP b 4096 (s1) = N2 at hn2 hn4 ⊢
    obtain ⟨L, t3⟩ := N2
    dsimp only at hn2 hn4 ⊢
    clear hkd
    go_enter Try.func67, Try.ntmps67
    go_wp2_with fail
    refine Lab.wp_scope_lab (Lab.scopeOf Try.f67) ?sc (4097) ?_
    case sc => kernel_rfl
    go_wp2_with (first
      | (go_at_call 66; with_reducible refine hn0.mono ?_; rintro e1 w1 ⟨rfl, hR1, hG1⟩; have hx1 := blk_grown hbx hG1 hqb; have fx0 := blk_frozen hx1 0; have x10 := cell_far hx1 0 _ rfl; obtain ⟨hx2, hR2, hG2⟩ := box_put hx1 hR1 (grown_more' hB hG1) hqb (Nat.le_refl _) hw0 0 (.int .i64 kd) #[.int .i64 kd, .slice none 0 0] rfl; have x20 := cell_far hx2 0 _ rfl; have hn3 := hn2 _ hR2)
      | (go_at_call 66; with_reducible refine hn3.mono ?_; rintro e3 w3 ⟨rfl, hR4, hG4⟩; have hx4 := blk_grown hx2 hG4 hqb; have hG5 := hG2.trans hG4))
    go_step3
    go_step
    (try go_step)
    refine Lab.wp_at_label (l := 0) (fun a0_ kq a_ w_ => ∃ u3 u4 u5 u6 u7 u23 u24 u25 u26 u27 u28 u29 u30 u31 u32 u33 u34 u35 u36 u37 u38 u39 u40 u41 u42 u43 u44 u45 u46 u47 u48 u49 u50 u51 u52 u53 u54 u55 u56 u57 u58 u59 u60 : Value, (∃ (m : Nat) (C : List Int) (last : Int) (t : RS) (u : Value), kq = m ∧ u4 = .int .i64 (m : Int) ∧ u5 = .int .i64 last ∧ C.length + m ≤ 4096 ∧ RD w0 w_ q b t ∧ t.a ≤ b.length ∧ stpN b m C last t = stpN b L.toNat [] 0 t3 ∧ w_.heap[w.heap.size]? = some (.cells #[.int .i64 kd, u] 95 (0, 0)) ∧ w_.ownsRow w.heap.size 3 1 u C.length (ints C) ∧ w.grownBy w_ (some q)) ∧ a_ = (((((((((((((((((((((((((((((((((((((((((((a0_.put (some 3) u3).put (some 4) u4).put (some 5) u5).put (some 6) u6).put (some 7) u7).put (some 23) u23).put (some 24) u24).put (some 25) u25).put (some 26) u26).put (some 27) u27).put (some 28) u28).put (some 29) u29).put (some 30) u30).put (some 31) u31).put (some 32) u32).put (some 33) u33).put (some 34) u34).put (some 35) u35).put (some 36) u36).put (some 37) u37).put (some 38) u38).put (some 39) u39).put (some 40) u40).put (some 41) u41).put (some 42) u42).put (some 43) u43).put (some 44) u44).put (some 45) u45).put (some 46) u46).put (some 47) u47).put (some 48) u48).put (some 49) u49).put (some 50) u50).put (some 51) u51).put (some 52) u52).put (some 53) u53).put (some 54) u54).put (some 55) u55).put (some 56) u56).put (some 57) u57).put (some 58) u58).put (some 59) u59).put (some 60) u60)) L.toNat ?fl (by omega) ?atStart ?round
    case fl => kernel_rfl
    case atStart =>
      (repeat apply Exists.intro)
      refine ⟨?rel, ?fr⟩
      case fr => (simp only [Act.put, List.setIfInBounds_toArray, List.set_cons_zero, List.set_cons_succ] <;> rfl)
      case rel => exact ⟨L.toNat, [], 0, t3, .slice none 0 0, rfl, by rw [Int.toNat_of_nonneg (by omega)], rfl, by simp; omega, hR4, hn4.1, rfl, hx4, World.ownsRow_nil _ _ _ _, hG5⟩
    case round =>
      intro gk a_ wr hle_ hinv HIH
      obtain ⟨u3, u4, u5, u6, u7, u23, u24, u25, u26, u27, u28, u29, u30, u31, u32, u33, u34, u35, u36, u37, u38, u39, u40, u41, u42, u43, u44, u45, u46, u47, u48, u49, u50, u51, u52, u53, u54, u55, u56, u57, u58, u59, u60, ⟨m, C, last, t, u, hgk, rfl, rfl, hom, hR, hta, hco, hbt, hown, hG⟩, rfl⟩ := hinv
      subst hgk
      simp only [Act.put, List.setIfInBounds_toArray, List.set_cons_zero, List.set_cons_succ]
      obtain ⟨p3, c3, rfl⟩ := Hlp.own_slice hown
      obtain ⟨At, ct, hbq⟩ := hR.blk
      have z1t := cell_far hbq 1 _ rfl
      have z3t := cell_far hbq 3 _ rfl
      have xt0 := cell_far hbt 0 _ rfl
      have xt1 := cell_far hbt 1 _ rfl
      have fb0 := blk_frozen hbt 0
      have fb1 := blk_frozen hbt 1
      obtain ⟨yb1, rr1, gg1⟩ := box_put hbt hR hG hqb (Nat.le_refl _) hw0 0 (.int .i64 kd) #[.int .i64 kd, .slice p3 C.length c3] rfl
      obtain ⟨yb2, rr2, gg2⟩ := box_put yb1 rr1 gg1 hqb (Nat.le_refl _) hw0 1 (.slice p3 C.length c3) #[.int .i64 kd, .slice p3 C.length c3] rfl
      have ho2 := (hown.kept (grown_set wr w.heap.size 0 (.int .i64 kd)) (.inr (Hlp.own_ne hown hbt (by simp)).symm)).kept (grown_set (wr.setCell ⟨w.heap.size, 0, none⟩ (.int .i64 kd)) w.heap.size 1 (.slice p3 C.length c3)) (.inr (Hlp.own_ne hown hbt (by simp)).symm)
      cases gk with
      | zero =>
        have HX := Aside0.mk hco
        clear hco
        go_wp2
        (try simp only [Exit.then, Exit.inBlock, Lab.gotos])
        refine bodyPost_ret (results_c rfl _ _ w.heap.size 95 #[.int .i64 kd, .slice p3 C.length c3] (0, 0) _ rfl yb2 Try.underlying95 rfl rfl) rfl ?_
        rw [← HX.out]
        exact ⟨_, rfl, ho2, rr2, gg2⟩
      | succ m =>
        have hz : ((m : Int) + 1 == 0) = false := beq_eq_false_iff_ne.mpr (by omega)
        rw [stpN] at hco
        by_cases he : t.e = 0
        case neg =>
          rw [if_pos he] at hco
          have HX := Aside0.mk hco
          clear hco
          go_wp2
          (try simp only [Exit.then, Exit.inBlock, Lab.gotos])
          refine bodyPost_ret (results_c rfl _ _ w.heap.size 95 #[.int .i64 kd, .slice p3 C.length c3] (0, 0) _ rfl yb2 Try.underlying95 rfl rfl) rfl ?_
          rw [← HX.out]
          exact ⟨_, rfl, ho2, rr2, gg2⟩
        rw [if_neg (fun h => h he)] at hco
        have hef : (t.e != 0) = false := by rw [he]; rfl
        have hm63 : C.length + 1 ≤ maxLen := by unfold maxLen; omega
        have hby8 : (C.length + 1) * 8 ≤ 140737488355328 := by omega
        have hn := next_calls hR 33554433 hb hta
        have hni := nextP_in b 33554433 (by omega) t hta
        generalize nextP b 33554433 t = N at hn hni hco
        obtain ⟨x, t1⟩ := N
        dsimp only at hn hni hco
        have hv0 : 0 ≤ Int.tdiv x 2 ∧ Int.tdiv x 2 ≤ 16777216 := by rw [Int.tdiv_eq_ediv_of_nonneg hni.2.1]; omega
        unfold litV litS at hco
        clear he
        by_cases hod : Int.tmod x 2 = 1
        · rw [if_pos hod] at hco
          have hodb : (Int.tmod x 2 == 1) = true := beq_iff_eq.mpr hod
          by_cases hle : Int.tdiv x 2 ≤ last
          · rw [if_pos hle] at hco
            have HC := Aside0.mk hco
            clear hco
            go_wp2_with (first
              | (go_at_call 66; with_reducible refine hn.mono ?_; rintro e6 w6 ⟨rfl, hR6, hG6⟩; have hx6 := blk_grown hbt hG6 hqb; have hown6 := hown.kept hG6 (.inr (Hlp.own_ne hown hbq (by simp)).symm); have hGw6 := hG.trans hG6; obtain ⟨A6, c6, j6⟩ := hR6.blk; have x61 := cell_far hx6 1 _ rfl)
              | (go_at_call 68; with_reducible refine (fail_calls hR6 (t.a : Int) 3).mono ?_; rintro e7 w7 ⟨rfl, hR7, hGf7⟩; have hx7 := blk_grown hx6 hGf7 hqb; have hown7 := hown6.kept hGf7 (.inr (Hlp.own_ne hown6 j6 (by simp)).symm); have hGw7 := hGw6.trans hGf7; obtain ⟨A7, c7, j7⟩ := hR7.blk; have x71 := cell_far hx7 1 _ rfl)
              | (at_builtin; refine wpList_append_own_at _ rfl _ _ 46 rfl w.heap.size 3 i0 (.int .i64 0) 1 8 Try.underlying46 hi hz0 hz1 hz2 rfl (by decide) _ _ _ rfl (hown7.alloc _) ⟨w7.heap.size, 0, none⟩ 1 1 [.int .i64 (-(Int.tdiv x 2))] rfl rfl (cell_one_new _ _ _) (by simp [Value.oneCell']) hm63 hby8 (Nat.le_trans hGw7.size (World.grownBy_alloc w7 _ none).size) ?_; intro v9 w9 hown9 hgrow9 hnil9 hblk9; obtain ⟨p9, c9, e9⟩ := Hlp.own_slice hown9; subst e9; have hR9 := (hR7.below ((Below.refl _ _).alloc (Nat.le_refl _) (.cells #[.int .i64 (-(Int.tdiv x 2))] 3))).grown hgrow9 (Hlp.own_ne (hown7.alloc (.cells #[.int .i64 (-(Int.tdiv x 2))] 3)) (blk_alloc j7 (.cells #[.int .i64 (-(Int.tdiv x 2))] 3)) (by simp)) (fun k hk => by have := (hown7.lt k hk).1; have := hw0; omega); have hG9 := grown_more (grown_more hGw7 (World.grownBy_alloc _ _ none) (by simp)) hgrow9 (fun k hk => (hown7.lt k hk).1); have hx9 := blk_grown (blk_alloc hx7 (.cells #[.int .i64 (-(Int.tdiv x 2))] 3)) hgrow9 (Hlp.own_ne (hown7.alloc (.cells #[.int .i64 (-(Int.tdiv x 2))] 3)) (blk_alloc hx7 (.cells #[.int .i64 (-(Int.tdiv x 2))] 3)) (by simp)); have fx9 := blk_frozen hx9 1; have x91 := cell_far hx9 1 _ rfl; obtain ⟨hx10, hR10, hG10⟩ := box_put hx9 hR9 hG9 hqb (Nat.le_refl _) hw0 1 (.slice p9 (C.length + 1) c9) #[.int .i64 kd, .slice p9 (C.length + 1) c9] rfl))
            go_step3
            simp only [Exit.then, Exit.inBlock, Lab.gotos]
            refine Lab.again HIH m (by omega) (by omega) ?_
            (repeat apply Exists.intro)
            refine ⟨?rel, ?fr⟩
            case fr => (simp only [Act.put, List.setIfInBounds_toArray, List.set_cons_zero, List.set_cons_succ] <;> rfl)
            case rel => exact ⟨m, C ++ [-(Int.tdiv x 2)], Int.tdiv x 2, failP t1 t.a 3, .slice p9 (C.length + 1) c9, rfl, rfl, rfl, by rw [List.length_append, List.length_singleton]; omega, hR10, by rw [failP_a]; exact hni.1, HC.out, hx10, (int_app hown9).kept (grown_set w9 w.heap.size 1 (.slice p9 (C.length + 1) c9)) (.inr (Hlp.own_ne hown9 hx9 (by simp)).symm), hG10⟩
          · rw [if_neg hle] at hco
            have HC := Aside0.mk hco
            clear hco
            go_wp2_with (first
              | (go_at_call 66; with_reducible refine hn.mono ?_; rintro e6 w6 ⟨rfl, hR6, hG6⟩; have hx6 := blk_grown hbt hG6 hqb; have hown6 := hown.kept hG6 (.inr (Hlp.own_ne hown hbq (by simp)).symm); have hGw6 := hG.trans hG6; obtain ⟨A6, c6, j6⟩ := hR6.blk; have x61 := cell_far hx6 1 _ rfl)
              | (at_builtin; refine wpList_append_own_at _ rfl _ _ 46 rfl w.heap.size 3 i0 (.int .i64 0) 1 8 Try.underlying46 hi hz0 hz1 hz2 rfl (by decide) _ _ _ rfl (hown6.alloc _) ⟨w6.heap.size, 0, none⟩ 1 1 [.int .i64 (-(Int.tdiv x 2))] rfl rfl (cell_one_new _ _ _) (by simp [Value.oneCell']) hm63 hby8 (Nat.le_trans hGw6.size (World.grownBy_alloc w6 _ none).size) ?_; intro v9 w9 hown9 hgrow9 hnil9 hblk9; obtain ⟨p9, c9, e9⟩ := Hlp.own_slice hown9; subst e9; have hR9 := (hR6.below ((Below.refl _ _).alloc (Nat.le_refl _) (.cells #[.int .i64 (-(Int.tdiv x 2))] 3))).grown hgrow9 (Hlp.own_ne (hown6.alloc (.cells #[.int .i64 (-(Int.tdiv x 2))] 3)) (blk_alloc j6 (.cells #[.int .i64 (-(Int.tdiv x 2))] 3)) (by simp)) (fun k hk => by have := (hown6.lt k hk).1; have := hw0; omega); have hG9 := grown_more (grown_more hGw6 (World.grownBy_alloc _ _ none) (by simp)) hgrow9 (fun k hk => (hown6.lt k hk).1); have hx9 := blk_grown (blk_alloc hx6 (.cells #[.int .i64 (-(Int.tdiv x 2))] 3)) hgrow9 (Hlp.own_ne (hown6.alloc (.cells #[.int .i64 (-(Int.tdiv x 2))] 3)) (blk_alloc hx6 (.cells #[.int .i64 (-(Int.tdiv x 2))] 3)) (by simp)); have fx9 := blk_frozen hx9 1; have x91 := cell_far hx9 1 _ rfl; obtain ⟨hx10, hR10, hG10⟩ := box_put hx9 hR9 hG9 hqb (Nat.le_refl _) hw0 1 (.slice p9 (C.length + 1) c9) #[.int .i64 kd, .slice p9 (C.length + 1) c9] rfl))
            go_step3
            simp only [Exit.then, Exit.inBlock, Lab.gotos]
            refine Lab.again HIH m (by omega) (by omega) ?_
            (repeat apply Exists.intro)
            refine ⟨?rel, ?fr⟩
            case fr => (simp only [Act.put, List.setIfInBounds_toArray, List.set_cons_zero, List.set_cons_succ] <;> rfl)
            case rel => exact ⟨m, C ++ [-(Int.tdiv x 2)], Int.tdiv x 2, t1, .slice p9 (C.length + 1) c9, rfl, rfl, rfl, by rw [List.length_append, List.length_singleton]; omega, hR10, hni.1, HC.out, hx10, (int_app hown9).kept (grown_set w9 w.heap.size 1 (.slice p9 (C.length + 1) c9)) (.inr (Hlp.own_ne hown9 hx9 (by simp)).symm), hG10⟩
        · rw [if_neg hod] at hco
          have hev : Int.tmod x 2 = 0 := by rw [Int.tmod_eq_emod_of_nonneg hni.2.1] at hod ⊢; omega
          clear hod
          by_cases hle : Int.tdiv x 2 ≤ last
          · rw [if_pos hle] at hco
            have HC := Aside0.mk hco
            clear hco
            go_wp2_with (first
              | (go_at_call 66; with_reducible refine hn.mono ?_; rintro e6 w6 ⟨rfl, hR6, hG6⟩; have hx6 := blk_grown hbt hG6 hqb; have hown6 := hown.kept hG6 (.inr (Hlp.own_ne hown hbq (by simp)).symm); have hGw6 := hG.trans hG6; obtain ⟨A6, c6, j6⟩ := hR6.blk; have x61 := cell_far hx6 1 _ rfl)
              | (go_at_call 68; with_reducible refine (fail_calls hR6 (t.a : Int) 3).mono ?_; rintro e7 w7 ⟨rfl, hR7, hGf7⟩; have hx7 := blk_grown hx6 hGf7 hqb; have hown7 := hown6.kept hGf7 (.inr (Hlp.own_ne hown6 j6 (by simp)).symm); have hGw7 := hGw6.trans hGf7; obtain ⟨A7, c7, j7⟩ := hR7.blk; have x71 := cell_far hx7 1 _ rfl)
              | (at_builtin; refine wpList_append_own_at _ rfl _ _ 46 rfl w.heap.size 3 i0 (.int .i64 0) 1 8 Try.underlying46 hi hz0 hz1 hz2 rfl (by decide) _ _ _ rfl (hown7.alloc _) ⟨w7.heap.size, 0, none⟩ 1 1 [.int .i64 (Int.tdiv x 2)] rfl rfl (cell_one_new _ _ _) (by simp [Value.oneCell']) hm63 hby8 (Nat.le_trans hGw7.size (World.grownBy_alloc w7 _ none).size) ?_; intro v9 w9 hown9 hgrow9 hnil9 hblk9; obtain ⟨p9, c9, e9⟩ := Hlp.own_slice hown9; subst e9; have hR9 := (hR7.below ((Below.refl _ _).alloc (Nat.le_refl _) (.cells #[.int .i64 (Int.tdiv x 2)] 3))).grown hgrow9 (Hlp.own_ne (hown7.alloc (.cells #[.int .i64 (Int.tdiv x 2)] 3)) (blk_alloc j7 (.cells #[.int .i64 (Int.tdiv x 2)] 3)) (by simp)) (fun k hk => by have := (hown7.lt k hk).1; have := hw0; omega); have hG9 := grown_more (grown_more hGw7 (World.grownBy_alloc _ _ none) (by simp)) hgrow9 (fun k hk => (hown7.lt k hk).1); have hx9 := blk_grown (blk_alloc hx7 (.cells #[.int .i64 (Int.tdiv x 2)] 3)) hgrow9 (Hlp.own_ne (hown7.alloc (.cells #[.int .i64 (Int.tdiv x 2)] 3)) (blk_alloc hx7 (.cells #[.int .i64 (Int.tdiv x 2)] 3)) (by simp)); have fx9 := blk_frozen hx9 1; have x91 := cell_far hx9 1 _ rfl; obtain ⟨hx10, hR10, hG10⟩ := box_put hx9 hR9 hG9 hqb (Nat.le_refl _) hw0 1 (.slice p9 (C.length + 1) c9) #[.int .i64 kd, .slice p9 (C.length + 1) c9] rfl))
            go_step3
            simp only [Exit.then, Exit.inBlock, Lab.gotos]
            refine Lab.again HIH m (by omega) (by omega) ?_
            (repeat apply Exists.intro)
            refine ⟨?rel, ?fr⟩
            case fr => (simp only [Act.put, List.setIfInBounds_toArray, List.set_cons_zero, List.set_cons_succ] <;> rfl)
            case rel => exact ⟨m, C ++ [Int.tdiv x 2], Int.tdiv x 2, failP t1 t.a 3, .slice p9 (C.length + 1) c9, rfl, rfl, rfl, by rw [List.length_append, List.length_singleton]; omega, hR10, by rw [failP_a]; exact hni.1, HC.out, hx10, (int_app hown9).kept (grown_set w9 w.heap.size 1 (.slice p9 (C.length + 1) c9)) (.inr (Hlp.own_ne hown9 hx9 (by simp)).symm), hG10⟩
          · rw [if_neg hle] at hco
            have HC := Aside0.mk hco
            clear hco
            go_wp2_with (first
              | (go_at_call 66; with_reducible refine hn.mono ?_; rintro e6 w6 ⟨rfl, hR6, hG6⟩; have hx6 := blk_grown hbt hG6 hqb; have hown6 := hown.kept hG6 (.inr (Hlp.own_ne hown hbq (by simp)).symm); have hGw6 := hG.trans hG6; obtain ⟨A6, c6, j6⟩ := hR6.blk; have x61 := cell_far hx6 1 _ rfl)
              | (at_builtin; refine wpList_append_own_at _ rfl _ _ 46 rfl w.heap.size 3 i0 (.int .i64 0) 1 8 Try.underlying46 hi hz0 hz1 hz2 rfl (by decide) _ _ _ rfl (hown6.alloc _) ⟨w6.heap.size, 0, none⟩ 1 1 [.int .i64 (Int.tdiv x 2)] rfl rfl (cell_one_new _ _ _) (by simp [Value.oneCell']) hm63 hby8 (Nat.le_trans hGw6.size (World.grownBy_alloc w6 _ none).size) ?_; intro v9 w9 hown9 hgrow9 hnil9 hblk9; obtain ⟨p9, c9, e9⟩ := Hlp.own_slice hown9; subst e9; have hR9 := (hR6.below ((Below.refl _ _).alloc (Nat.le_refl _) (.cells #[.int .i64 (Int.tdiv x 2)] 3))).grown hgrow9 (Hlp.own_ne (hown6.alloc (.cells #[.int .i64 (Int.tdiv x 2)] 3)) (blk_alloc j6 (.cells #[.int .i64 (Int.tdiv x 2)] 3)) (by simp)) (fun k hk => by have := (hown6.lt k hk).1; have := hw0; omega); have hG9 := grown_more (grown_more hGw6 (World.grownBy_alloc _ _ none) (by simp)) hgrow9 (fun k hk => (hown6.lt k hk).1); have hx9 := blk_grown (blk_alloc hx6 (.cells #[.int .i64 (Int.tdiv x 2)] 3)) hgrow9 (Hlp.own_ne (hown6.alloc (.cells #[.int .i64 (Int.tdiv x 2)] 3)) (blk_alloc hx6 (.cells #[.int .i64 (Int.tdiv x 2)] 3)) (by simp)); have fx9 := blk_frozen hx9 1; have x91 := cell_far hx9 1 _ rfl; obtain ⟨hx10, hR10, hG10⟩ := box_put hx9 hR9 hG9 hqb (Nat.le_refl _) hw0 1 (.slice p9 (C.length + 1) c9) #[.int .i64 kd, .slice p9 (C.length + 1) c9] rfl))
            go_step3
            simp only [Exit.then, Exit.inBlock, Lab.gotos]
            refine Lab.again HIH m (by omega) (by omega) ?_
            (repeat apply Exists.intro)
            refine ⟨?rel, ?fr⟩
            case fr => (simp only [Act.put, List.setIfInBounds_toArray, List.set_cons_zero, List.set_cons_succ] <;> rfl)
            case rel => exact ⟨m, C ++ [Int.tdiv x 2], Int.tdiv x 2, t1, .slice p9 (C.length + 1) c9, rfl, rfl, rfl, by rw [List.length_append, List.length_singleton]; omega, hR10, hni.1, HC.out, hx10, (int_app hown9).kept (grown_set w9 w.heap.size 1 (.slice p9 (C.length + 1) c9)) (.inr (Hlp.own_ne hown9 hx9 (by simp)).symm), hG10⟩
end Go.Proofs.Ytcebjhbphcoboaa.Crt
