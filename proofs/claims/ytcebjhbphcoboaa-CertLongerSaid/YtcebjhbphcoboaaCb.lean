/- Certificates: a core's places, read. A walk by hand. -/
import Derived.Test.YtcebjhbphcoboaaCa
import Derived.Test.YtcebjhbphcoboaaLab
namespace Go.Proofs.Ytcebjhbphcoboaa.Crt
open Go Go.RowKit Go.Proofs.Ytcebjhbphcoboaa.C Go.Proofs.Ytcebjhbphcoboaa.Hlp Go.Proofs.YtcebjhbphcoboaaW.PrintWords Go.Proofs.YtcebjhbphcoboaaW.PrintLast Go.Proofs.YtcebjhbphcoboaaW.PrintMore Go.Proofs.Ytcebjhbphcoboaa.Aid
attribute [local go_sem] max2_int min2_int max_two min_two
set_option linter.unusedVariables false
set_option linter.unusedSimpArgs false
/-- One place more. -/
def lastP (out : List Int) (p : Int) : Int := if out.length = 0 then p else p + out.getD (out.length - 1) 0
def corA (out : List Int) (a p : Int) (s1 : RS) : RS := if out.length ≠ 0 ∧ p = 0 then failP s1 a 3 else s1
def corT (out : List Int) (a p : Int) (s1 : RS) : RS := if lastP out p > 1048575 then failP (corA out a p s1) a 4 else corA out a p s1
def corS (b : List Int) (out : List Int) (s : RS) : RS := corT out s.a (nextP b 1048575 s).1 (nextP b 1048575 s).2
def coreN (b : List Int) : Nat → List Int → RS → List Int × RS
  | 0, out, s => (out, s)
  | m + 1, out, s => if s.e ≠ 0 then (out, s) else coreN b m (out ++ [lastP out (nextP b 1048575 s).1]) (corS b out s)
def coreP (b : List Int) (s : RS) : List Int × RS := coreN b (nextP b 65536 s).1.toNat [] (nextP b 65536 s).2
set_option maxHeartbeats 4000000 in
set_option maxRecDepth 100000 in
theorem core_calls {w0 w : World} {q : Nat} {b : List Int} {s : RS} (h : RD w0 w q b s) (hb : b.length ≤ 1000000000) (ha : s.a ≤ b.length) : Calls Try.prog 65 #[.pointer (some ⟨q, 0, none⟩)] w fun r w' => ∃ v, r = .returned v ∧ w'.ownsRow w.heap.size 3 1 v (coreP b s).1.length (ints (coreP b s).1) ∧ RD w0 w' q b (coreP b s).2 ∧ w.grownBy w' (some q) := by
  obtain ⟨i0, hi, hz0, hz1, hz2⟩ := info_parts infoI'
  have hn0 := next_calls h 65536 hb ha
  have hni := nextP_in b 65536 (by omega) s ha
  unfold coreP
  generalize hN : nextP b 65536 s = N at hn0 hni ⊢
  obtain ⟨left, s1⟩ := N
  dsimp only at hn0 hni ⊢
  clear hN
  go_enter Try.func65, Try.ntmps65
  go_wp2_with fail
  refine Lab.wp_scope_lab (Lab.scopeOf Try.f65) ?sc (left.toNat + 1) ?_
  case sc => kernel_rfl
  go_wp2_with (first
    | (go_at_call 66; with_reducible refine hn0.mono ?_; rintro e1 w1 ⟨rfl, hR1, hG1⟩))
  go_step3
  go_step
  (try go_step)
  refine Lab.wp_at_label (l := 0) (fun a0_ kq a_ w_ => ∃ u3 u4 u5 u6 u9 u10 u11 u12 u13 u14 u15 u16 u17 u18 u19 u20 u21 u22 u23 u24 u25 u26 u27 u28 u29 u30 u31 u32 u33 u34 u35 u36 u37 u38 u39 u40 u41 u42 u43 u44 u45 u46 u47 u48 u49 u50 u51 : Value, (∃ (m : Nat) (out : List Int) (t : RS), kq = m ∧ u4 = .int .i64 (m : Int) ∧ out.length + m ≤ 65536 ∧ RD w0 w_ q b t ∧ t.a ≤ b.length ∧ (t.e = 0 → ∀ x ∈ out, 0 ≤ x ∧ x ≤ 1048575) ∧ coreN b m out t = coreN b left.toNat [] s1 ∧ w_.ownsRow w.heap.size 3 1 u3 out.length (ints out) ∧ w.grownBy w_ (some q)) ∧ a_ = (((((((((((((((((((((((((((((((((((((((((((((((a0_.put (some 3) u3).put (some 4) u4).put (some 5) u5).put (some 6) u6).put (some 9) u9).put (some 10) u10).put (some 11) u11).put (some 12) u12).put (some 13) u13).put (some 14) u14).put (some 15) u15).put (some 16) u16).put (some 17) u17).put (some 18) u18).put (some 19) u19).put (some 20) u20).put (some 21) u21).put (some 22) u22).put (some 23) u23).put (some 24) u24).put (some 25) u25).put (some 26) u26).put (some 27) u27).put (some 28) u28).put (some 29) u29).put (some 30) u30).put (some 31) u31).put (some 32) u32).put (some 33) u33).put (some 34) u34).put (some 35) u35).put (some 36) u36).put (some 37) u37).put (some 38) u38).put (some 39) u39).put (some 40) u40).put (some 41) u41).put (some 42) u42).put (some 43) u43).put (some 44) u44).put (some 45) u45).put (some 46) u46).put (some 47) u47).put (some 48) u48).put (some 49) u49).put (some 50) u50).put (some 51) u51)) left.toNat ?fl (by omega) ?atStart ?round
  case fl => kernel_rfl
  case atStart =>
    (repeat apply Exists.intro)
    refine ⟨?rel, ?fr⟩
    case fr => (simp only [Act.put, List.setIfInBounds_toArray, List.set_cons_zero, List.set_cons_succ] <;> rfl)
    case rel => exact ⟨left.toNat, [], s1, rfl, by rw [Int.toNat_of_nonneg (by omega)], by simp; omega, hR1, by omega, (fun _ x hx => by cases hx), rfl, World.ownsRow_nil _ _ _ _, hG1⟩
  case round =>
    intro gk a_ wr hle_ hinv HIH
    obtain ⟨u3, u4, u5, u6, u9, u10, u11, u12, u13, u14, u15, u16, u17, u18, u19, u20, u21, u22, u23, u24, u25, u26, u27, u28, u29, u30, u31, u32, u33, u34, u35, u36, u37, u38, u39, u40, u41, u42, u43, u44, u45, u46, u47, u48, u49, u50, u51, ⟨m, out, t, hgk, rfl, hom, hR, hta, hto, hco, hown, hG⟩, rfl⟩ := hinv
    subst hgk
    simp only [Act.put, List.setIfInBounds_toArray, List.set_cons_zero, List.set_cons_succ]
    obtain ⟨p3, c3, rfl⟩ := Hlp.own_slice hown
    obtain ⟨A, c, k1, k2, k3, k4, k5⟩ := id hR
    have z1 := cell_far k1 1 _ rfl
    have z3 := cell_far k1 3 _ rfl
    have k5w : w0.heap.size ≤ w.heap.size := by obtain ⟨_, _, _, _, _, _, k⟩ := h; exact k.size
    cases gk with
    | zero =>
      have HX := Aside0.mk hco
      clear hco
      go_wp2
      (try simp only [Exit.then, Exit.inBlock, Lab.gotos])
      go_ret
      rw [← HX.out]
      exact ⟨_, rfl, hown, hR, hG⟩
    | succ m =>
      have hz : ((m : Int) + 1 == 0) = false := beq_eq_false_iff_ne.mpr (by omega)
      rw [coreN] at hco
      by_cases he : t.e = 0
      case neg =>
        rw [if_pos he] at hco
        have HX := Aside0.mk hco
        clear hco
        go_wp2
        (try simp only [Exit.then, Exit.inBlock, Lab.gotos])
        go_ret
        rw [← HX.out]
        exact ⟨_, rfl, hown, hR, hG⟩
      rw [if_neg (fun h => h he)] at hco
      have hto := hto he
      have hef : (t.e != 0) = false := by rw [he]; rfl
      have hm63 : out.length + 1 ≤ maxLen := by unfold maxLen; omega
      have hby8 : (out.length + 1) * 8 ≤ 140737488355328 := by omega
      have hn := next_calls hR 1048575 hb hta
      have hni := nextP_in b 1048575 (by omega) t hta
      unfold corS at hco
      generalize nextP b 1048575 t = N at hn hni hco
      obtain ⟨pv, t1⟩ := N
      dsimp only at hn hni hco
      by_cases ho : out.length = 0
      · have hoI : ¬ (0 : Int) < (out.length : Int) := by omega
        have e1 : lastP out pv = pv := by unfold lastP; rw [if_pos ho]
        have e2 : corT out t.a pv t1 = t1 := by unfold corT corA; rw [e1, if_neg (show ¬ pv > 1048575 by omega), if_neg (show ¬ (out.length ≠ 0 ∧ pv = 0) from fun h => h.1 ho)]
        rw [e1, e2] at hco
        clear e1 e2
        have HC := Aside0.mk hco
        obtain rfl := List.eq_nil_of_length_eq_zero ho
        have hown : wr.ownsRow w.heap.size 3 1 (.slice p3 0 c3) 0 [] := hown
        have hom' : ([] ++ [pv]).length + m ≤ 65536 := by simp at hom ⊢; omega
        have hm63 : 0 + 1 ≤ maxLen := hm63
        have hby8 : (0 + 1) * 8 ≤ 140737488355328 := by omega
        clear hco hto he ho hoI hom
        go_wp2_with (first
          | (go_at_call 66; with_reducible refine hn.mono ?_; rintro e5 w5 ⟨rfl, hR5, hG5⟩; have hown5 := hown.kept hG5 (.inr (Hlp.own_ne hown k1 (by simp)).symm); have hGw5 := hG.trans hG5; obtain ⟨A5, c5, j1⟩ := hR5.blk)
          | (at_builtin; refine wpList_append_own_at _ rfl _ _ 46 rfl w.heap.size 3 i0 (.int .i64 0) 1 8 Try.underlying46 hi hz0 hz1 hz2 rfl (by decide) _ _ _ rfl (hown5.alloc _) ⟨w5.heap.size, 0, none⟩ 1 1 [.int .i64 (pv)] rfl rfl (cell_one_new _ _ _) (by simp [Value.oneCell']) hm63 hby8 (Nat.le_trans hGw5.size (World.grownBy_alloc w5 _ none).size) ?_; intro v9 w9 hown9 hgrow9 hnil9 hblk9; have hR9 := (hR5.below ((Below.refl _ _).alloc (Nat.le_refl _) (.cells #[.int .i64 (pv)] 3))).grown hgrow9 (Hlp.own_ne (hown5.alloc (.cells #[.int .i64 (pv)] 3)) (blk_alloc j1 (.cells #[.int .i64 (pv)] 3)) (by simp)) (fun k hk => by have := (hown5.lt k hk).1; have := k5w; omega); have hG9 := grown_more (grown_more hGw5 (World.grownBy_alloc _ _ none) (by simp)) hgrow9 (fun k hk => (hown5.lt k hk).1)))
        go_step3
        simp only [Exit.then, Exit.inBlock, Lab.gotos]
        refine Lab.again HIH m (by omega) (by omega) ?_
        (repeat apply Exists.intro)
        refine ⟨?rel, ?fr⟩
        case fr => (simp only [Act.put, List.setIfInBounds_toArray, List.set_cons_zero, List.set_cons_succ] <;> rfl)
        case rel => exact ⟨m, [] ++ [pv], t1, rfl, rfl, hom', hR9, hni.1, (fun _ x hx => by rw [List.nil_append, List.mem_singleton] at hx; omega), HC.out, (by simpa [ints] using hown9), hG9⟩
      · have hpos : 0 < out.length := by omega
        have hoI : (0 : Int) < (out.length : Int) := by omega
        obtain ⟨r3, rfl⟩ := addr_of hown hpos
        obtain ⟨last, hlast⟩ : ∃ x, out.getD (out.length - 1) 0 = x := ⟨_, rfl⟩
        have hmem : last ∈ out := by
          rw [← hlast, List.getD, List.getElem?_eq_getElem (by omega)]
          exact List.getElem_mem _
        have hlb := hto last hmem
        have hget : (ints out)[out.length - 1]? = some (.int .i64 last) := by
          unfold ints
          rw [List.getElem?_map, ← hlast, List.getD, List.getElem?_eq_getElem (show out.length - 1 < out.length by omega)]; rfl
        have hl1 : (0 : Int) ≤ (out.length : Int) - 1 := by omega
        have hl2 : (out.length : Int) - 1 < (out.length : Int) := by omega
        have e1 : lastP out pv = pv + last := by unfold lastP; rw [if_neg ho, hlast]
        unfold corT corA at hco
        rw [e1] at hco
        clear hlast e1 he hmem
        by_cases hpz : pv = 0
        · subst hpz
          rw [Int.zero_add, if_neg (show ¬ last > 1048575 by omega), if_pos (show out.length ≠ 0 ∧ (0 : Int) = 0 from ⟨ho, rfl⟩)] at hco
          have HC := Aside0.mk hco
          clear hco ho
          go_wp2_with (first
            | (go_at_call 66; with_reducible refine hn.mono ?_; rintro e5 w5 ⟨rfl, hR5, hG5⟩; have hown5 := hown.kept hG5 (.inr (Hlp.own_ne hown k1 (by simp)).symm); have hGw5 := hG.trans hG5; obtain ⟨A5, c5, j5⟩ := hR5.blk; have y5 := row_cell hown5 _ _ hget)
            | (go_at_call 68; with_reducible refine (fail_calls hR5 (t.a : Int) 3).mono ?_; rintro e6 w6 ⟨rfl, hR6, hGf6⟩; have hown6 := hown5.kept hGf6 (.inr (Hlp.own_ne hown5 j5 (by simp)).symm); have hGw6 := hGw5.trans hGf6; obtain ⟨A6, c6, j6⟩ := hR6.blk; have y6 := row_cell hown6 _ _ hget)
            | (at_builtin; refine wpList_append_own_at _ rfl _ _ 46 rfl w.heap.size 3 i0 (.int .i64 0) 1 8 Try.underlying46 hi hz0 hz1 hz2 rfl (by decide) _ _ _ rfl (hown6.alloc _) ⟨w6.heap.size, 0, none⟩ 1 1 [.int .i64 (last)] rfl rfl (cell_one_new _ _ _) (by simp [Value.oneCell']) hm63 hby8 (Nat.le_trans hGw6.size (World.grownBy_alloc w6 _ none).size) ?_; intro v9 w9 hown9 hgrow9 hnil9 hblk9; have hR9 := (hR6.below ((Below.refl _ _).alloc (Nat.le_refl _) (.cells #[.int .i64 (last)] 3))).grown hgrow9 (Hlp.own_ne (hown6.alloc (.cells #[.int .i64 (last)] 3)) (blk_alloc j6 (.cells #[.int .i64 (last)] 3)) (by simp)) (fun k hk => by have := (hown6.lt k hk).1; have := k5w; omega); have hG9 := grown_more (grown_more hGw6 (World.grownBy_alloc _ _ none) (by simp)) hgrow9 (fun k hk => (hown6.lt k hk).1)))
          go_step3
          simp only [Exit.then, Exit.inBlock, Lab.gotos]
          refine Lab.again HIH m (by omega) (by omega) ?_
          (repeat apply Exists.intro)
          refine ⟨?rel, ?fr⟩
          case fr => (simp only [Act.put, List.setIfInBounds_toArray, List.set_cons_zero, List.set_cons_succ] <;> rfl)
          case rel => exact ⟨m, out ++ [last], failP t1 t.a 3, rfl, rfl, by rw [List.length_append, List.length_singleton]; omega, hR9, by rw [failP_a]; exact hni.1, (fun _ x hx => by rcases List.mem_append.mp hx with hx | hx; (exact hto x hx); (rw [List.mem_singleton] at hx; omega)), HC.out, int_app hown9, hG9⟩
        rw [if_neg (show ¬ (out.length ≠ 0 ∧ pv = 0) from fun h => hpz h.2)] at hco
        have hpf : (pv == 0) = false := beq_eq_false_iff_ne.mpr hpz
        by_cases hmx : pv + last > 1048575
        · rw [if_pos hmx] at hco
          have hmxI : 1048575 < pv + last := hmx
          have HC := Aside0.mk hco
          clear hco ho hpz hmx
          go_wp2_with (first
            | (go_at_call 66; with_reducible refine hn.mono ?_; rintro e5 w5 ⟨rfl, hR5, hG5⟩; have hown5 := hown.kept hG5 (.inr (Hlp.own_ne hown k1 (by simp)).symm); have hGw5 := hG.trans hG5; obtain ⟨A5, c5, j5⟩ := hR5.blk; have y5 := row_cell hown5 _ _ hget)
            | (go_at_call 68; with_reducible refine (fail_calls hR5 (t.a : Int) 4).mono ?_; rintro e6 w6 ⟨rfl, hR6, hGf6⟩; have hown6 := hown5.kept hGf6 (.inr (Hlp.own_ne hown5 j5 (by simp)).symm); have hGw6 := hGw5.trans hGf6; obtain ⟨A6, c6, j6⟩ := hR6.blk; have y6 := row_cell hown6 _ _ hget)
            | (at_builtin; refine wpList_append_own_at _ rfl _ _ 46 rfl w.heap.size 3 i0 (.int .i64 0) 1 8 Try.underlying46 hi hz0 hz1 hz2 rfl (by decide) _ _ _ rfl (hown6.alloc _) ⟨w6.heap.size, 0, none⟩ 1 1 [.int .i64 (pv + last)] rfl rfl (cell_one_new _ _ _) (by simp [Value.oneCell']) hm63 hby8 (Nat.le_trans hGw6.size (World.grownBy_alloc w6 _ none).size) ?_; intro v9 w9 hown9 hgrow9 hnil9 hblk9; have hR9 := (hR6.below ((Below.refl _ _).alloc (Nat.le_refl _) (.cells #[.int .i64 (pv + last)] 3))).grown hgrow9 (Hlp.own_ne (hown6.alloc (.cells #[.int .i64 (pv + last)] 3)) (blk_alloc j6 (.cells #[.int .i64 (pv + last)] 3)) (by simp)) (fun k hk => by have := (hown6.lt k hk).1; have := k5w; omega); have hG9 := grown_more (grown_more hGw6 (World.grownBy_alloc _ _ none) (by simp)) hgrow9 (fun k hk => (hown6.lt k hk).1)))
          go_step3
          simp only [Exit.then, Exit.inBlock, Lab.gotos]
          refine Lab.again HIH m (by omega) (by omega) ?_
          (repeat apply Exists.intro)
          refine ⟨?rel, ?fr⟩
          case fr => (simp only [Act.put, List.setIfInBounds_toArray, List.set_cons_zero, List.set_cons_succ] <;> rfl)
          case rel => exact ⟨m, out ++ [pv + last], failP t1 t.a 4, rfl, rfl, by rw [List.length_append, List.length_singleton]; omega, hR9, by rw [failP_a]; exact hni.1, (fun h => absurd h (failP_e _ _ _ (by decide))), HC.out, int_app hown9, hG9⟩
        · rw [if_neg hmx] at hco
          have hmxI : ¬ 1048575 < pv + last := hmx
          have HC := Aside0.mk hco
          clear hco ho hpz hmx
          go_wp2_with (first
            | (go_at_call 66; with_reducible refine hn.mono ?_; rintro e5 w5 ⟨rfl, hR5, hG5⟩; have hown5 := hown.kept hG5 (.inr (Hlp.own_ne hown k1 (by simp)).symm); have hGw5 := hG.trans hG5; obtain ⟨A5, c5, j5⟩ := hR5.blk; have y5 := row_cell hown5 _ _ hget)
            | (at_builtin; refine wpList_append_own_at _ rfl _ _ 46 rfl w.heap.size 3 i0 (.int .i64 0) 1 8 Try.underlying46 hi hz0 hz1 hz2 rfl (by decide) _ _ _ rfl (hown5.alloc _) ⟨w5.heap.size, 0, none⟩ 1 1 [.int .i64 (pv + last)] rfl rfl (cell_one_new _ _ _) (by simp [Value.oneCell']) hm63 hby8 (Nat.le_trans hGw5.size (World.grownBy_alloc w5 _ none).size) ?_; intro v9 w9 hown9 hgrow9 hnil9 hblk9; have hR9 := (hR5.below ((Below.refl _ _).alloc (Nat.le_refl _) (.cells #[.int .i64 (pv + last)] 3))).grown hgrow9 (Hlp.own_ne (hown5.alloc (.cells #[.int .i64 (pv + last)] 3)) (blk_alloc j5 (.cells #[.int .i64 (pv + last)] 3)) (by simp)) (fun k hk => by have := (hown5.lt k hk).1; have := k5w; omega); have hG9 := grown_more (grown_more hGw5 (World.grownBy_alloc _ _ none) (by simp)) hgrow9 (fun k hk => (hown5.lt k hk).1)))
          go_step3
          simp only [Exit.then, Exit.inBlock, Lab.gotos]
          refine Lab.again HIH m (by omega) (by omega) ?_
          (repeat apply Exists.intro)
          refine ⟨?rel, ?fr⟩
          case fr => (simp only [Act.put, List.setIfInBounds_toArray, List.set_cons_zero, List.set_cons_succ] <;> rfl)
          case rel => exact ⟨m, out ++ [pv + last], t1, rfl, rfl, by rw [List.length_append, List.length_singleton]; omega, hR9, hni.1, (fun _ x hx => by rcases List.mem_append.mp hx with hx | hx; (exact hto x hx); (rw [List.mem_singleton] at hx; omega)), HC.out, int_app hown9, hG9⟩
end Go.Proofs.Ytcebjhbphcoboaa.Crt
