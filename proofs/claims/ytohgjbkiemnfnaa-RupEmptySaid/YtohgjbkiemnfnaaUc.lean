/- Going on by units: the loop over the clauses. Plain words; a walk by hand. -/
import Derived.Test.YtohgjbkiemnfnaaUb
import Derived.Test.YtohgjbkiemnfnaaLab
namespace Go.Proofs.Ytohgjbkiemnfnaa.Rup
open Go Go.RowKit Go.Maps Go.Proofs.Ytohgjbkiemnfnaa.R Go.Proofs.Ytohgjbkiemnfnaa.Hlp Go.Proofs.Ytohgjbkiemnfnaa.Aid Go.Proofs.YtohgjbkiemnfnaaW.PrintWords Go.Proofs.YtohgjbkiemnfnaaW.PrintLast Go.Proofs.YtohgjbkiemnfnaaW.PrintMore
attribute [local go_sem] max2_int min2_int max_two min_two
set_option linter.unusedVariables false
set_option linter.unusedSimpArgs false
theorem unitN_spec (T : List Int) : ∀ (c : List Int) (l n : Int), 0 ≤ n → n ≤ 1 →
    ((unitN T c l n).2 = 2 ∧ ((∃ x ∈ c, tr T x = 1) ∨ 2 ≤ n + (c.filter fun x => decide (tr T x = 0)).length)) ∨
    ((∀ x ∈ c, tr T x ≠ 1) ∧ (unitN T c l n).2 = n + (c.filter fun x => decide (tr T x = 0)).length ∧ (unitN T c l n).2 ≤ 1 ∧ ((unitN T c l n).1 = l ∧ (∀ x ∈ c, tr T x = -1) ∨ ((unitN T c l n).1 ∈ c ∧ tr T (unitN T c l n).1 = 0 ∧ ∀ y ∈ c, y ≠ (unitN T c l n).1 → tr T y = -1))) := by
  intro c
  induction c with
  | nil =>
    intro l n h0 h1
    right
    rw [unitN]
    refine ⟨(fun x hx => by cases hx), by simp, h1, .inl ⟨rfl, (fun x hx => by cases hx)⟩⟩
  | cons x c ih =>
    intro l n h0 h1
    rw [unitN]
    rcases tr_cases T x with ht | ht | ht
    · rw [if_pos ht]
      exact .inl ⟨rfl, .inl ⟨x, List.mem_cons_self .., ht⟩⟩
    · rw [if_neg (by omega), if_neg (by omega), List.filter_cons_of_neg (by simp; omega)]
      rcases ih l n h0 h1 with ⟨h, h'⟩ | ⟨h, h', h2, h3⟩
      · exact .inl ⟨h, h'.imp (fun ⟨y, hy, e⟩ => ⟨y, List.mem_cons_of_mem _ hy, e⟩) id⟩
      · refine .inr ⟨fun y hy => ?_, h', h2, ?_⟩
        · rcases List.mem_cons.mp hy with rfl | hy
          · omega
          · exact h y hy
        · rcases h3 with ⟨h3, h4⟩ | ⟨h3, h4, h5⟩
          · exact .inl ⟨h3, fun y hy => by rcases List.mem_cons.mp hy with rfl | hy; exact ht; exact h4 y hy⟩
          · exact .inr ⟨List.mem_cons_of_mem _ h3, h4, fun y hy hne => by rcases List.mem_cons.mp hy with rfl | hy; exact ht; exact h5 y hy hne⟩
    · rw [if_neg (by omega), if_pos ht, List.filter_cons_of_pos (by simpa using ht), List.length_cons]
      by_cases hn : n + 1 = 2
      · rw [if_pos hn]
        exact .inl ⟨rfl, .inr (by omega)⟩
      · rw [if_neg hn]
        rcases ih x (n + 1) (by omega) (by omega) with ⟨h, h'⟩ | ⟨h, h', h2, h3⟩
        · refine .inl ⟨h, ?_⟩
          rcases h' with ⟨y, hy, e⟩ | h'
          · exact .inl ⟨y, List.mem_cons_of_mem _ hy, e⟩
          · exact .inr (by omega)
        · refine .inr ⟨fun y hy => ?_, by omega, h2, ?_⟩
          · rcases List.mem_cons.mp hy with rfl | hy
            · omega
            · exact h y hy
          · right
            rcases h3 with ⟨h3, h4⟩ | ⟨h3, h4, h5⟩
            · rw [h3]
              exact ⟨List.mem_cons_self .., ht, fun y hy hne => by rcases List.mem_cons.mp hy with rfl | hy; exact absurd rfl hne; exact h4 y hy⟩
            · have hz : 0 < (c.filter fun x => decide (tr T x = 0)).length := List.length_pos_of_mem (List.mem_filter.mpr ⟨h3, by simpa using h4⟩)
              omega
/-- Clauses as they stand here: each literal once, and a variable's. -/
def ClsOk (X : List (List Int)) : Prop := ∀ c ∈ X, c.Nodup ∧ (∀ x ∈ c, Lit1 x) ∧ c.length ≤ 1000000
theorem unit_zero {T c : List Int} (h : (unitP T c).2 = 0) : Fails T c := by
  rcases unitN_spec T c 0 0 (by decide) (by decide) with ⟨h1, _⟩ | ⟨h1, h2, _, h3⟩
  · unfold unitP at h; omega
  · intro y hy
    rcases h3 with ⟨_, h4⟩ | ⟨h4, h5, h6⟩
    · exact h4 y hy
    · have hz : 0 < (c.filter fun x => decide (tr T x = 0)).length := List.length_pos_of_mem (List.mem_filter.mpr ⟨h4, by simpa using h5⟩)
      unfold unitP at h; omega
theorem unit_one {T c : List Int} (h : (unitP T c).2 = 1) : Unit1 T c (unitP T c).1 := by
  rcases unitN_spec T c 0 0 (by decide) (by decide) with ⟨h1, _⟩ | ⟨h1, h2, _, h3⟩
  · unfold unitP at h; omega
  · rcases h3 with ⟨_, h4⟩ | h4
    · have hz : (c.filter fun x => decide (tr T x = 0)) = [] := List.filter_eq_nil_iff.mpr fun y hy => by have := h4 y hy; simp; omega
      rw [hz] at h2
      unfold unitP at h
      simp at h2
      omega
    · exact h4
theorem unit_in (T c : List Int) : 0 ≤ (unitP T c).2 ∧ (unitP T c).2 ≤ 2 := by
  unfold unitP
  rcases unitN_spec T c 0 0 (by decide) (by decide) with ⟨h1, _⟩ | ⟨h1, h2, h3, _⟩ <;> omega
theorem unit_two {T c : List Int} (hn : c.Nodup) (h : (unitP T c).2 = 2) : ¬ Fails T c ∧ ∀ x, ¬ Unit1 T c x := by
  rcases unitN_spec T c 0 0 (by decide) (by decide) with ⟨h1, h2⟩ | ⟨h1, h2, h3, _⟩
  · rcases h2 with ⟨x, hx, e⟩ | h2
    · refine ⟨fun hf => by have := hf x hx; omega, fun y ⟨hy, h0, hall⟩ => ?_⟩
      by_cases e2 : x = y
      · subst e2; omega
      · have := hall x hx e2; omega
    · have hnf : (c.filter fun x => decide (tr T x = 0)).Nodup := hn.filter _
      match hf : c.filter (fun x => decide (tr T x = 0)), hnf, h2 with
      | [], _, h2 => simp at h2
      | [a], _, h2 => simp at h2
      | a :: b :: r, hnf, _ =>
        have ha : a ∈ c ∧ tr T a = 0 := by have := List.mem_filter.mp (show a ∈ c.filter (fun x => decide (tr T x = 0)) by rw [hf]; simp); exact ⟨this.1, by simpa using this.2⟩
        have hb : b ∈ c ∧ tr T b = 0 := by have := List.mem_filter.mp (show b ∈ c.filter (fun x => decide (tr T x = 0)) by rw [hf]; simp); exact ⟨this.1, by simpa using this.2⟩
        have hab : a ≠ b := by intro e; subst e; simp at hnf
        refine ⟨fun hf => by have := hf a ha.1; omega, fun y ⟨hy, h0, hall⟩ => ?_⟩
        by_cases e1 : a = y
        · have := hall b hb.1 (fun e => hab (e1.trans e.symm)); omega
        · have := hall a ha.1 e1; omega
  · unfold unitP at h; omega
/-- Clauses that are read through a store's block. -/
def SR (W : World) (g : Nat) (X : List (List Int)) : Prop :=
  ∃ A c, W.cell? ⟨g, 0, none⟩ = some (.slice A X.length c) ∧ X.length ≤ c ∧ Kd.C (Kd.slice 3 (Kd.int .i64)) W A X.length X
theorem SR.below {W W' : World} {g : Nat} {X : List (List Int)} (h : SR W g X) (hb : Below W.heap.size W W') : SR W' g X := by
  obtain ⟨A, c, h1, h2, h3⟩ := h
  exact ⟨A, c, cell_below h1 hb, h2, Kd.C_below h3 hb⟩
theorem rdL_nat (l : List (List Int)) (n : Nat) (h : n < l.length) : rd_L1 l (n : Int) = l[n] := by
  unfold rd_L1
  simp [List.getD_eq_getElem?_getD, List.getElem?_eq_getElem h]
set_option maxHeartbeats 4000000 in
set_option maxRecDepth 100000 in
theorem close_calls {W0 W : World} {g b n : Nat} {X : List (List Int)} {T0 : List Int} (hS : SR W0 g X) (hX : ClsOk X) (hXl : X.length ≤ 1000000) (hB : Below W0.heap.size W0 W) (hF : FM W W0.heap.size b n T0) (hC : Cons T0) (N0 : Nat) (hN : n + leftL X T0 ≤ N0) (hN1 : N0 ≤ 1000000) :
    Calls Try.prog 84 #[.pointer (some ⟨g, 0, none⟩), .map (some b)] W fun e w' => ∃ r, Out X T0 r ∧ e = .returned (.bool r.isSome) ∧ Below W0.heap.size W0 w' ∧ W.grownBy w' (some b) ∧ ∀ T', r = some T' → ∃ n', FM w' W0.heap.size b n' T' ∧ n' ≤ N0 := by
  obtain ⟨A, c, hcell, hc, hR⟩ := hS
  go_enter Try.func84, Try.ntmps84
  go_wp2_with fail
  refine Lab.wp_scope_lab (Lab.scopeOf Try.f84) ?sc (leftL X T0 + 1) ?_
  case sc => kernel_rfl
  (try go_wp2_with fail)
  (try go_step3)
  (try go_step)
  (try go_step)
  refine Lab.wp_at_label (l := 0) (fun a0_ kq a_ w_ => ∃ u4 u6 u7 u8 u9 u10 u11 u12 u13 u14 u15 u16 u17 u18 u19 u20 u21 u22 u23 u24 u25 u26 u27 u28 u29 u30 u31 u32 : Value, (∃ (n : Nat) (T : List Int), leftL X T ≤ kq ∧ n + leftL X T ≤ N0 ∧ Way X T0 T ∧ FM w_ W0.heap.size b n T ∧ Below W0.heap.size W0 w_ ∧ W.grownBy w_ (some b)) ∧ a_ = (((((((((((((((((((((((((((a0_.put (some 4) u4).put (some 6) u6).put (some 7) u7).put (some 8) u8).put (some 9) u9).put (some 10) u10).put (some 11) u11).put (some 12) u12).put (some 13) u13).put (some 14) u14).put (some 15) u15).put (some 16) u16).put (some 17) u17).put (some 18) u18).put (some 19) u19).put (some 20) u20).put (some 21) u21).put (some 22) u22).put (some 23) u23).put (some 24) u24).put (some 25) u25).put (some 26) u26).put (some 27) u27).put (some 28) u28).put (some 29) u29).put (some 30) u30).put (some 31) u31).put (some 32) u32) (leftL X T0) ?fl (by omega) ?atStart ?round
  case fl => kernel_rfl
  case atStart =>
    (repeat apply Exists.intro)
    refine ⟨?rel, ?fr⟩
    case fr => (simp only [Act.put, List.setIfInBounds_toArray, List.set_cons_zero, List.set_cons_succ] <;> rfl)
    case rel => exact ⟨n, T0, Nat.le_refl _, hN, Way.start hC, hF, hB, ⟨rfl, rfl, rfl, Nat.le_refl _, fun _ _ _ => rfl⟩⟩
  case round =>
    intro gk a_ wr hle_ hinv HIH
    obtain ⟨u4, u6, u7, u8, u9, u10, u11, u12, u13, u14, u15, u16, u17, u18, u19, u20, u21, u22, u23, u24, u25, u26, u27, u28, u29, u30, u31, u32, ⟨m, T, hmT, hmN, hW, hF, hB, hG⟩, rfl⟩ := hinv
    simp only [Act.put, List.setIfInBounds_toArray, List.set_cons_zero, List.set_cons_succ]
    have hcr := cell_below hcell hB
    have hRr := Kd.C_below hR hB
    go_wp2_with fail
    go_loopw [14] (fun v14 w1 => ∃ i : Nat, i ≤ X.length ∧ v14 = .int .i64 i ∧ w1 = wr ∧ Aside0 (∀ j (hj : j < X.length), j < i → (unitP T X[j]).2 = 2))
      (fun v14 _ => X.length - (intOf v14).toNat)
    case atStart => exact ⟨0, Nat.zero_le _, rfl, rfl, ⟨fun j _ h => absurd h (Nat.not_lt_zero _)⟩⟩
    case round =>
      obtain ⟨i, hi, rfl, rfl, HA⟩ := hrel
      by_cases hi1 : i < X.length
      · have hiI : (i : Int) < (X.length : Int) := by omega
        obtain ⟨ad, A1, c1, rfl, hcell1, hc1, hR1⟩ := at_L1 hRr (i : Int) (by omega) hiI
        rw [Int.toNat_natCast] at hcell1
        have hcx : rd_L1 X (i : Int) = X[i] := rdL_nat X i hi1
        have hmem : rd_L1 X (i : Int) ∈ X := by rw [hcx]; exact List.getElem_mem hi1
        have hok := hX _ hmem
        have huc := unit_calls hF hW.2.1 hR1 hc1 hok.2.2 hok.2.1
        have HXi := Aside0.mk hcx
        clear hcx
        generalize rd_L1 X (i : Int) = cl at *
        have hin := unit_in T cl
        by_cases h0 : (unitP T cl).2 = 0
        · rw [h0] at huc
          have hO := hW.fails hmem (unit_zero h0)
          generalize (unitP T cl).1 = lit at *
          go_wp2_with (go_at_call 96; with_reducible refine huc.mono ?_; rintro e w2 ⟨rfl, rfl⟩)
          (try simp only [Exit.then, Exit.inBlock, Lab.gotos])
          go_ret
          exact ⟨none, hO, rfl, hB, hG, fun T' e => by cases e⟩
        · by_cases h1 : (unitP T cl).2 = 1
          · rw [h1] at huc
            have hu := unit_one h1
            have hlt := left_put hmem hu.1 hu.2.1
            have hlit := hok.2.1 _ hu.1
            have hW2 := hW.put hmem hu hlit.1
            have hno := (tr_free.mp hu.2.1).2
            generalize (unitP T cl).1 = lit at *
            have htk := take_calls hF lit hlit hno (by unfold maxLen; omega)
            go_wp2_with (first
              | (go_at_call 96; with_reducible refine huc.mono ?_; rintro e w2 ⟨rfl, rfl⟩)
              | (go_at_call 83; with_reducible refine htk.mono ?_; rintro e w3 ⟨rfl, hF3, hG3⟩))
            go_step3
            (try simp only [Exit.then, Exit.inBlock, Lab.gotos])
            refine Lab.again HIH (leftL X (T ++ [lit])) (by omega) (by omega) ?_
            (repeat apply Exists.intro)
            refine ⟨?rel, ?fr⟩
            case fr => (simp only [Act.put, List.setIfInBounds_toArray, List.set_cons_zero, List.set_cons_succ] <;> rfl)
            case rel => exact ⟨m + 1, T ++ [lit], Nat.le_refl _, by omega, hW2, hF3, hB.grown hG3 hB.size (fun q e => by cases e; exact hF.1), hG.trans hG3⟩
          · have h2 : (unitP T cl).2 = 2 := by omega
            rw [h2] at huc
            have HA2 := Aside0.mk (show ∀ j (hj : j < X.length), j < i + 1 → (unitP T X[j]).2 = 2 from fun j hj hlt => by
              by_cases e : j = i
              · subst e; rw [← HXi.out]; exact h2
              · exact HA.out j hj (by omega))
            generalize (unitP T cl).1 = lit at *
            clear HA h0 h1 h2
            go_wp2_with (go_at_call 96; with_reducible refine huc.mono ?_; rintro e w2 ⟨rfl, rfl⟩)
            exact ⟨⟨i + 1, hi1, rfl, trivial, HA2⟩, by simp [intOf]; omega⟩
      · have hiI : ¬ (i : Int) < (X.length : Int) := by omega
        go_wp2_with fail
        (try simp only [Exit.then, Exit.inBlock, Lab.gotos])
        go_ret
        refine ⟨some T, hW.done fun c hc => ?_, rfl, hB, hG, fun T' e => ?_⟩
        · obtain ⟨j, hj, rfl⟩ := List.getElem_of_mem hc
          exact unit_two (hX _ hc).1 (HA.out j hj (by omega))
        · obtain rfl := Option.some.inj e
          exact ⟨m, hF, by omega⟩
end Go.Proofs.Ytohgjbkiemnfnaa.Rup
