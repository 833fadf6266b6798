/- Going on by units: the loop over the clauses. Plain words; a walk by hand. -/
import Derived.Test.YtohgjbkiemnfnaaUab
import Derived.Test.YtohgjbkiemnfnaaLab
import Derived.Test.YtohgjbkiemnfnaaFun
import Derived.Test.YtohgjbkiemnfnaaRn81
import Derived.Test.YtohgjbkiemnfnaaRn49
import Derived.Test.YtohgjbkiemnfnaaRn53
namespace Go.Proofs.Ytohgjbkiemnfnaa.Rup
open Go Go.RowKit Go.Maps Go.Proofs.Ytohgjbkiemnfnaa.R Go.Proofs.Ytohgjbkiemnfnaa.Hlp Go.Proofs.Ytohgjbkiemnfnaa.Aid Go.Proofs.YtohgjbkiemnfnaaW.PrintWords Go.Proofs.YtohgjbkiemnfnaaW.PrintLast Go.Proofs.YtohgjbkiemnfnaaW.PrintMore
attribute [local go_sem] max2_int min2_int max_two min_two
set_option linter.unusedVariables false
set_option linter.unusedSimpArgs false
theorem unitN_spec (T : List Int) : ∀ (c : List Int) (l n : Int), 0 ≤ n → n ≤ 1 →
    ((unitN T c l n).2 = 2 ∧ ((∃ x ∈ c, tr T x = 1) ∨ 2 ≤ n + (c.filter fun x => decide (tr T x = 0)).length)) ∨
    ((∀ x ∈ c, tr T x ≠ 1) ∧ (unitN T c l n).2 = n + (c.filter fun x => decide (tr T x = 0)).length ∧ (unitN T c l n).2 ≤ 1 ∧ ((unitN T c l n).1 = l ∧ (∀ x ∈ c, tr T x = -1) ∨ ((unitN T c l n).1 ∈ c ∧ tr T (unitN T c l n).1 = 0 ∧ ∀ y ∈ c, y ≠ (unitN T c l n).1 → tr T y = -1))) := by
  intro c
  induction c with
  | nil =>
    intro l n h0 h1
    right
    rw [unitN]
    refine ⟨(fun x hx => by cases hx), by simp, h1, .inl ⟨rfl, (fun x hx => by cases hx)⟩⟩
  | cons x c ih =>
    intro l n h0 h1
    rw [unitN]
    rcases tr_cases T x with ht | ht | ht
    · rw [if_pos ht]
      exact .inl ⟨rfl, .inl ⟨x, List.mem_cons_self .., ht⟩⟩
    · rw [if_neg (by omega), if_neg (by omega), List.filter_cons_of_neg (by simp; omega)]
      rcases ih l n h0 h1 with ⟨h, h'⟩ | ⟨h, h', h2, h3⟩
      · exact .inl ⟨h, h'.imp (fun ⟨y, hy, e⟩ => ⟨y, List.mem_cons_of_mem _ hy, e⟩) id⟩
      · refine .inr ⟨fun y hy => ?_, h', h2, ?_⟩
        · rcases List.mem_cons.mp hy with rfl | hy
          · omega
          · exact h y hy
        · rcases h3 with ⟨h3, h4⟩ | ⟨h3, h4, h5⟩
          · exact .inl ⟨h3, fun y hy => by rcases List.mem_cons.mp hy with rfl | hy; exact ht; exact h4 y hy⟩
          · exact .inr ⟨List.mem_cons_of_mem _ h3, h4, fun y hy hne => by rcases List.mem_cons.mp hy with rfl | hy; exact ht; exact h5 y hy hne⟩
    · rw [if_neg (by omega), if_pos ht, List.filter_cons_of_pos (by simpa using ht), List.length_cons]
      by_cases hn : n + 1 = 2
      · rw [if_pos hn]
        exact .inl ⟨rfl, .inr (by omega)⟩
      · rw [if_neg hn]
        rcases ih x (n + 1) (by omega) (by omega) with ⟨h, h'⟩ | ⟨h, h', h2, h3⟩
        · refine .inl ⟨h, ?_⟩
          rcases h' with ⟨y, hy, e⟩ | h'
          · exact .inl ⟨y, List.mem_cons_of_mem _ hy, e⟩
          · exact .inr (by omega)
        · refine .inr ⟨fun y hy => ?_, by omega, h2, ?_⟩
          · rcases List.mem_cons.mp hy with rfl | hy
            · omega
            · exact h y hy
          · right
            rcases h3 with ⟨h3, h4⟩ | ⟨h3, h4, h5⟩
            · rw [h3]
              exact ⟨List.mem_cons_self .., ht, fun y hy hne => by rcases List.mem_cons.mp hy with rfl | hy; exact absurd rfl hne; exact h4 y hy⟩
            · have hz : 0 < (c.filter fun x => decide (tr T x = 0)).length := List.length_pos_of_mem (List.mem_filter.mpr ⟨h3, by simpa using h4⟩)
              omega
/-- Clauses as they stand here: each literal once, and a variable's. -/
def ClsOk (X : List (List Int)) : Prop := ∀ c ∈ X, c.Nodup ∧ (∀ x ∈ c, Lit1 x) ∧ c.length ≤ 1000000
theorem unit_zero {T c : List Int} (h : (unitP T c).2 = 0) : Fails T c := by
  rcases unitN_spec T c 0 0 (by decide) (by decide) with ⟨h1, _⟩ | ⟨h1, h2, _, h3⟩
  · unfold unitP at h; omega
  · intro y hy
    rcases h3 with ⟨_, h4⟩ | ⟨h4, h5, h6⟩
    · exact h4 y hy
    · have hz : 0 < (c.filter fun x => decide (tr T x = 0)).length := List.length_pos_of_mem (List.mem_filter.mpr ⟨h4, by simpa using h5⟩)
      unfold unitP at h; omega
theorem unit_one {T c : List Int} (h : (unitP T c).2 = 1) : Unit1 T c (unitP T c).1 := by
  rcases unitN_spec T c 0 0 (by decide) (by decide) with ⟨h1, _⟩ | ⟨h1, h2, _, h3⟩
  · unfold unitP at h; omega
  · rcases h3 with ⟨_, h4⟩ | h4
    · have hz : (c.filter fun x => decide (tr T x = 0)) = [] := List.filter_eq_nil_iff.mpr fun y hy => by have := h4 y hy; simp; omega
      rw [hz] at h2
      unfold unitP at h
      simp at h2
      omega
    · exact h4
theorem unit_in (T c : List Int) : 0 ≤ (unitP T c).2 ∧ (unitP T c).2 ≤ 2 := by
  unfold unitP
  rcases unitN_spec T c 0 0 (by decide) (by decide) with ⟨h1, _⟩ | ⟨h1, h2, h3, _⟩ <;> omega
theorem unit_two {T c : List Int} (hn : c.Nodup) (h : (unitP T c).2 = 2) : ¬ Fails T c ∧ ∀ x, ¬ Unit1 T c x := by
  rcases unitN_spec T c 0 0 (by decide) (by decide) with ⟨h1, h2⟩ | ⟨h1, h2, h3, _⟩
  · rcases h2 with ⟨x, hx, e⟩ | h2
    · refine ⟨fun hf => by have := hf x hx; omega, fun y ⟨hy, h0, hall⟩ => ?_⟩
      by_cases e2 : x = y
      · subst e2; omega
      · have := hall x hx e2; omega
    · have hnf : (c.filter fun x => decide (tr T x = 0)).Nodup := hn.filter _
      match hf : c.filter (fun x => decide (tr T x = 0)), hnf, h2 with
      | [], _, h2 => simp at h2
      | [a], _, h2 => simp at h2
      | a :: b :: r, hnf, _ =>
        have ha : a ∈ c ∧ tr T a = 0 := by have := List.mem_filter.mp (show a ∈ c.filter (fun x => decide (tr T x = 0)) by rw [hf]; simp); exact ⟨this.1, by simpa using this.2⟩
        have hb : b ∈ c ∧ tr T b = 0 := by have := List.mem_filter.mp (show b ∈ c.filter (fun x => decide (tr T x = 0)) by rw [hf]; simp); exact ⟨this.1, by simpa using this.2⟩
        have hab : a ≠ b := by intro e; subst e; simp at hnf
        refine ⟨fun hf => by have := hf a ha.1; omega, fun y ⟨hy, h0, hall⟩ => ?_⟩
        by_cases e1 : a = y
        · have := hall b hb.1 (fun e => hab (e1.trans e.symm)); omega
        · have := hall a ha.1 e1; omega
  · unfold unitP at h; omega
/-- Clauses that are read through a store's block. -/
def SR (W : World) (g : Nat) (X : List (List Int)) : Prop :=
  ∃ A c, W.cell? ⟨g, 0, none⟩ = some (.slice A X.length c) ∧ X.length ≤ c ∧ Kd.C (Kd.slice 3 (Kd.int .i64)) W A X.length X
theorem SR.below {W W' : World} {g : Nat} {X : List (List Int)} (h : SR W g X) (hb : Below W.heap.size W W') : SR W' g X := by
  obtain ⟨A, c, h1, h2, h3⟩ := h
  exact ⟨A, c, cell_below h1 hb, h2, Kd.C_below h3 hb⟩
theorem rdL_nat (l : List (List Int)) (n : Nat) (h : n < l.length) : rd_L1 l (n : Int) = l[n] := by
  unfold rd_L1
  simp [List.getD_eq_getElem?_getD, List.getElem?_eq_getElem h]
set_option maxHeartbeats 4000000 in
set_option maxRecDepth 100000 in
theorem close_calls {W0 W : World} {g b n : Nat} {X : List (List Int)} {T0 : List Int} (hS : SR W0 g X) (hX : ClsOk X) (hXl : X.length ≤ 1000000) (hB : Below W0.heap.size W0 W) (hF : FM W W0.heap.size b n T0) (hC : Cons T0) (N0 : Nat) (hN : n + leftL X T0 ≤ N0) (hN1 : N0 ≤ 1000000) :
    Calls Try.prog 84 #[.pointer (some ⟨g, 0, none⟩), .map (some b)] W fun e w' => ∃ r, Out X T0 r ∧ e = .returned (.bool r.isSome) ∧ Below W0.heap.size W0 w' ∧ W.grownBy w' (some b) ∧ ∀ T', r = some T' → ∃ n', FM w' W0.heap.size b n' T' ∧ n' ≤ N0 := by
  obtain ⟨A, c, hcell, hc, hR⟩ := hS
  go_enter Try.func84, Try.ntmps84
  go_wp2_with fail
  refine Lab.wp_scope_lab (Lab.scopeOf Try.f84) ?sc (leftL X T0 + 1) ?_
  case sc => kernel_rfl
  (try go_wp2_with fail)
  (try go_step3)
  (try go_step)
  (try go_step)
  refine Lab.wp_at_label (l := 0) (fun a0_ kq a_ w_ => ∃ u4 u6 u7 u8 u9 u10 u11 u12 u13 u14 u15 u16 u17 u18 u19 u20 u21 u22 u23 u24 u25 u26 u27 u28 u29 u30 u31 u32 : Value, (∃ (n : Nat) (T : List Int), leftL X T ≤ kq ∧ n + leftL X T ≤ N0 ∧ Way X T0 T ∧ FM w_ W0.heap.size b n T ∧ Below W0.heap.size W0 w_ ∧ W.grownBy w_ (some b)) ∧ a_ = (((((((((((((((((((((((((((a0_.put (some 4) u4).put (some 6) u6).put (some 7) u7).put (some 8) u8).put (some 9) u9).put (some 10) u10).put (some 11) u11).put (some 12) u12).put (some 13) u13).put (some 14) u14).put (some 15) u15).put (some 16) u16).put (some 17) u17).put (some 18) u18).put (some 19) u19).put (some 20) u20).put (some 21) u21).put (some 22) u22).put (some 23) u23).put (some 24) u24).put (some 25) u25).put (some 26) u26).put (some 27) u27).put (some 28) u28).put (some 29) u29).put (some 30) u30).put (some 31) u31).put (some 32) u32) (leftL X T0) ?fl (by omega) ?atStart ?round
  case fl => kernel_rfl
  case atStart =>
    (repeat apply Exists.intro)
    refine ⟨?rel, ?fr⟩
    case fr => (simp only [Act.put, List.setIfInBounds_toArray, List.set_cons_zero, List.set_cons_succ] <;> rfl)
    case rel => exact ⟨n, T0, Nat.le_refl _, hN, Way.start hC, hF, hB, ⟨rfl, rfl, rfl, Nat.le_refl _, fun _ _ _ => rfl⟩⟩
  case round =>
    intro gk a_ wr hle_ hinv HIH
    obtain ⟨u4, u6, u7, u8, u9, u10, u11, u12, u13, u14, u15, u16, u17, u18, u19, u20, u21, u22, u23, u24, u25, u26, u27, u28, u29, u30, u31, u32, ⟨m, T, hmT, hmN, hW, hF, hB, hG⟩, rfl⟩ := hinv
    simp only [Act.put, List.setIfInBounds_toArray, List.set_cons_zero, List.set_cons_succ]
    have hcr := cell_below hcell hB
    have hRr := Kd.C_below hR hB
    go_wp2_with fail
    go_loopw [14] (fun v14 w1 => ∃ i : Nat, i ≤ X.length ∧ v14 = .int .i64 i ∧ w1 = wr ∧ Aside0 (∀ j (hj : j < X.length), j < i → (unitP T X[j]).2 = 2))
      (fun v14 _ => X.length - (intOf v14).toNat)
    case atStart => exact ⟨0, Nat.zero_le _, rfl, rfl, ⟨fun j _ h => absurd h (Nat.not_lt_zero _)⟩⟩
    case round =>
      obtain ⟨i, hi, rfl, rfl, HA⟩ := hrel
      by_cases hi1 : i < X.length
      · have hiI : (i : Int) < (X.length : Int) := by omega
        obtain ⟨ad, A1, c1, rfl, hcell1, hc1, hR1⟩ := at_L1 hRr (i : Int) (by omega) hiI
        rw [Int.toNat_natCast] at hcell1
        have hcx : rd_L1 X (i : Int) = X[i] := rdL_nat X i hi1
        have hmem : rd_L1 X (i : Int) ∈ X := by rw [hcx]; exact List.getElem_mem hi1
        have hok := hX _ hmem
        have huc := unit_calls hF hW.2.1 hR1 hc1 hok.2.2 hok.2.1
        have HXi := Aside0.mk hcx
        clear hcx
        generalize rd_L1 X (i : Int) = cl at *
        have hin := unit_in T cl
        by_cases h0 : (unitP T cl).2 = 0
        · rw [h0] at huc
          have hO := hW.fails hmem (unit_zero h0)
          generalize (unitP T cl).1 = lit at *
          go_wp2_with (go_at_call 96; with_reducible refine huc.mono ?_; rintro e w2 ⟨rfl, rfl⟩)
          (try simp only [Exit.then, Exit.inBlock, Lab.gotos])
          go_ret
          exact ⟨none, hO, rfl, hB, hG, fun T' e => by cases e⟩
        · by_cases h1 : (unitP T cl).2 = 1
          · rw [h1] at huc
            have hu := unit_one h1
            have hlt := left_put hmem hu.1 hu.2.1
            have hlit := hok.2.1 _ hu.1
            have hW2 := hW.put hmem hu hlit.1
            have hno := (tr_free.mp hu.2.1).2
            generalize (unitP T cl).1 = lit at *
            have htk := take_calls hF lit hlit hno (by unfold maxLen; omega)
            go_wp2_with (first
              | (go_at_call 96; with_reducible refine huc.mono ?_; rintro e w2 ⟨rfl, rfl⟩)
              | (go_at_call 83; with_reducible refine htk.mono ?_; rintro e w3 ⟨rfl, hF3, hG3⟩))
            go_step3
            (try simp only [Exit.then, Exit.inBlock, Lab.gotos])
            refine Lab.again HIH (leftL X (T ++ [lit])) (by omega) (by omega) ?_
            (repeat apply Exists.intro)
            refine ⟨?rel, ?fr⟩
            case fr => (simp only [Act.put, List.setIfInBounds_toArray, List.set_cons_zero, List.set_cons_succ] <;> rfl)
            case rel => exact ⟨m + 1, T ++ [lit], Nat.le_refl _, by omega, hW2, hF3, hB.grown hG3 hB.size (fun q e => by cases e; exact hF.1), hG.trans hG3⟩
          · have h2 : (unitP T cl).2 = 2 := by omega
            rw [h2] at huc
            have HA2 := Aside0.mk (show ∀ j (hj : j < X.length), j < i + 1 → (unitP T X[j]).2 = 2 from fun j hj hlt => by
              by_cases e : j = i
              · subst e; rw [← HXi.out]; exact h2
              · exact HA.out j hj (by omega))
            generalize (unitP T cl).1 = lit at *
            clear HA h0 h1 h2
            go_wp2_with (go_at_call 96; with_reducible refine huc.mono ?_; rintro e w2 ⟨rfl, rfl⟩)
            exact ⟨⟨i + 1, hi1, rfl, trivial, HA2⟩, by simp [intOf]; omega⟩
      · have hiI : ¬ (i : Int) < (X.length : Int) := by omega
        go_wp2_with fail
        (try simp only [Exit.then, Exit.inBlock, Lab.gotos])
        go_ret
        refine ⟨some T, hW.done fun c hc => ?_, rfl, hB, hG, fun T' e => ?_⟩
        · obtain ⟨j, hj, rfl⟩ := List.getElem_of_mem hc
          exact unit_two (hX _ hc).1 (HA.out j hj (by omega))
        · obtain rfl := Option.some.inj e
          exact ⟨m, hF, by omega⟩
end Go.Proofs.Ytohgjbkiemnfnaa.Rup

namespace Go.Proofs.Ytohgjbkiemnfnaa.Rup
open Go Go.RowKit Go.Proofs.Ytohgjbkiemnfnaa.R Go.Proofs.Ytohgjbkiemnfnaa.Hlp Go.Proofs.Ytohgjbkiemnfnaa.Aid Go.Proofs.Ytohgjbkiemnfnaa.Clause12 Go.Proofs.Ytohgjbkiemnfnaa.Clean12 Go.Proofs.YtohgjbkiemnfnaaW.PrintWords Go.Proofs.YtohgjbkiemnfnaaW.PrintLast Go.Proofs.YtohgjbkiemnfnaaW.PrintMore
set_option linter.unusedVariables false
set_option linter.unusedSimpArgs false
/-! Right literals; clean clauses. -/
def gd (c : List Int) : Bool := !(c.any (clause_Good.p 16777216))
theorem gd_iff (c : List Int) : gd c = true ↔ ∀ x ∈ c, Lit1 x := by
  unfold gd
  rw [Bool.not_eq_true', List.any_eq_false]
  refine ⟨fun h x hx => ?_, fun h x hx => ?_⟩
  · have h1 := h x hx
    unfold clause_Good.p clause_abs.p at h1
    unfold Lit1
    rw [Bool.or_eq_true, not_or] at h1
    have h2 := h1.1
    rw [beq_iff_eq] at h2
    (repeat' split at h2) <;> omega
  · obtain ⟨h0, h1, h2⟩ := h x hx
    unfold clause_Good.p clause_abs.p
    rw [Bool.or_eq_true, not_or, beq_iff_eq, decide_eq_true_eq]
    (repeat' split) <;> omega
theorem lit_av {x : Int} (h : Lit1 x) : av x > 0 := by
  obtain ⟨h0, h1, h2⟩ := h
  rw [av_def]
  (repeat' split) <;> omega
def cl2 (c : List Int) : List Int × Bool := if gd c = true then ((cleanP c).1, !(cleanP c).2) else ([], false)
theorem rupClean_ev (c : List Int) (hc : c.length ≤ 1000000000) : Ev (fun k => rup_clean.f k c) (cl2 c) := by
  unfold rup_clean.f cl2
  rw [show clause_Good.f c 16777216 = some (gd c) from rfl]
  refine ev_bind (Ev.now _) ?_
  by_cases h : gd c = true
  · rw [if_pos h]
    exact ev_pos h (ev_bind (clean_ev c hc) (Ev.now _))
  · rw [if_neg h]
    exact ev_neg h (Ev.now _)
theorem rise_nodup {c : List Int} (h : Rise c) : c.Nodup := List.Pairwise.imp (fun {a b} hab e => by rw [e] at hab; omega) h
theorem cl2_ok {c : List Int} (h : (cl2 c).2 = true) : (∀ x, x ∈ (cl2 c).1 ↔ x ∈ c) ∧ (∀ x ∈ (cl2 c).1, Lit1 x) ∧ Rise (cl2 c).1 ∧ Cons (cl2 c).1 ∧ (cl2 c).1.length ≤ c.length ∧ gd c = true ∧ cleanP c = ((cl2 c).1, false) := by
  unfold cl2 at h ⊢
  by_cases hg : gd c = true
  · rw [if_pos hg] at h ⊢
    have hL := (gd_iff c).mp hg
    have hno : (cleanP c).2 = false := by simpa using h
    have hlone : Lone c := fun x hx h0 hn => by rw [clean_always c x h0 hx hn] at hno; cases hno
    obtain ⟨he, hr⟩ := clean_lone c hlone
    rw [he]
    have hm : ∀ x, x ∈ cleanD c ↔ x ∈ c := fun x => by
      rw [mem_clean]
      exact ⟨fun h => h.1, fun h => ⟨h, lit_av (hL x h)⟩⟩
    exact ⟨hm, fun x hx => hL x ((hm x).mp hx), hr, fun x hx hn => hlone x ((hm x).mp hx) (lit_av (hL x ((hm x).mp hx))) ((hm _).mp hn), clean_len c, hg, rfl⟩
  · rw [if_neg hg] at h; cases h
theorem cl2_clauses {c : List Int} (h : (cl2 c).2 = true) (hl : c.length ≤ 1000000) : (cl2 c).1.Nodup ∧ (∀ x ∈ (cl2 c).1, Lit1 x) ∧ (cl2 c).1.length ≤ 1000000 := by
  obtain ⟨_, h2, h3, _, h5, _⟩ := cl2_ok h
  exact ⟨rise_nodup h3, h2, by omega⟩
/-- Whatever lists the same literals, each with no negation beside it, comes to the same clean clause. -/
theorem clean_same {a b : List Int} (hm : ∀ x, x ∈ a ↔ x ∈ b) (hC : Cons a) : cleanP a = cleanP b := by
  have ha : Lone a := fun x hx _ hn => hC x hx hn
  have hb : Lone b := fun x hx _ hn => hC x ((hm x).mpr hx) ((hm _).mpr hn)
  obtain ⟨e1, r1⟩ := clean_lone a ha
  obtain ⟨e2, r2⟩ := clean_lone b hb
  rw [e1, e2, rise_one _ _ r1 r2 fun x => by rw [mem_clean, mem_clean, hm]]
/-- A clean clause stays. -/
theorem clean_id {c : List Int} (h : (cl2 c).2 = true) : cl2 (cl2 c).1 = ((cl2 c).1, true) := by
  obtain ⟨hm, hL, hr, hC, _, hg, he⟩ := cl2_ok h
  have hg2 : gd (cl2 c).1 = true := (gd_iff _).mpr hL
  have e : cleanP (cl2 c).1 = cleanP c := clean_same hm hC
  have h2 : cl2 (cl2 c).1 = if gd (cl2 c).1 = true then ((cleanP (cl2 c).1).1, !(cleanP (cl2 c).1).2) else ([], false) := rfl
  rw [h2, if_pos hg2, e, he]
  rfl
theorem refGood_l0 (c : List Int) (hc : c.length ≤ 1000000000) (v : Int) (d : Nat) : ∀ n : Nat, c.length - n = d → n ≤ c.length → Ev (fun k => ferruleref12_Good.l0 k c v (n : Int)) (!((c.drop n).any (clause_Good.p v))) := by
  induction d with
  | zero =>
    intro n hd hn
    refine Ev.step (fun k => by rw [ferruleref12_Good.l0]) (ev_neg (by omega) (ev_now ?_))
    rw [List.drop_eq_nil_of_le (by omega)]; rfl
  | succ d ih =>
    intro n hd hn
    have hlt : n < c.length := by omega
    refine Ev.step (fun k => by rw [ferruleref12_Good.l0]) (ev_pos (by omega) (ev_pos (by omega) ?_))
    rw [rd_at c n hlt, drop_one c n hlt, List.any_cons]
    refine ev_bind (var_ev _) ?_
    unfold clause_Good.p
    by_cases h0 : clause_abs.p c[n] = 0
    · refine ev_pos h0 (ev_now ?_)
      rw [h0]; simp
    · refine ev_neg h0 (ev_bind (var_ev _) ?_)
      by_cases h1 : clause_abs.p c[n] > v
      · refine ev_pos h1 (ev_now ?_)
        rw [decide_eq_true h1]; simp
      · refine ev_neg h1 ?_
        rw [decide_eq_false h1, show (clause_abs.p c[n] == 0) = false from by simpa using h0, Bool.or_false, Bool.false_or, wrap64_in (by omega) (by omega), show (n : Int) + 1 = ((n + 1 : Nat) : Int) by omega]
        exact ih (n + 1) (by omega) (by omega)
theorem refGoodV_ev (c : List Int) (hc : c.length ≤ 1000000000) (v : Int) : Ev (fun k => ferruleref12_Good.f k c v) (!(c.any (clause_Good.p v))) := by
  unfold ferruleref12_Good.f
  have := refGood_l0 c hc v _ 0 rfl (Nat.zero_le _)
  rwa [List.drop_zero] at this
theorem refGood_ev (c : List Int) (hc : c.length ≤ 1000000000) : Ev (fun k => ferruleref12_Good.f k c 16777216) (gd c) := refGoodV_ev c hc _
/-! Where a clause stands. -/
theorem same_drop (d C : List Int) (n : Nat) (h1 : n < d.length) (h2 : n < C.length) : decide (d.drop n = C.drop n) = if rd d n = rd C n then decide (d.drop (n + 1) = C.drop (n + 1)) else false := by
  rw [List.drop_eq_getElem_cons h1, List.drop_eq_getElem_cons h2, rd_nat d n h1, rd_nat C n h2]
  generalize d[n] = x
  generalize C[n] = y
  by_cases e : x = y
  · subst e
    rw [if_pos rfl]
    exact decide_eq_decide.mpr ⟨fun h => (List.cons.inj h).2, fun h => by rw [h]⟩
  · rw [if_neg e]
    exact decide_eq_false fun h => e (List.cons.inj h).1
theorem same_l0 (d C : List Int) (hd : d.length ≤ 1000000000) (he : d.length = C.length) : ∀ m n : Nat, d.length - n = m → n ≤ d.length → Ev (fun k => ferruleref12_Same.l0 k d C (n : Int)) (decide (d.drop n = C.drop n)) := by
  intro m
  induction m with
  | zero =>
    intro n hm hn
    refine Ev.step (fun k => by rw [ferruleref12_Same.l0]) (ev_neg (by omega) (ev_now ?_))
    rw [List.drop_eq_nil_of_le (by omega), List.drop_eq_nil_of_le (by omega)]; rfl
  | succ m ih =>
    intro n hm hn
    refine Ev.step (fun k => by rw [ferruleref12_Same.l0]) (ev_pos (by omega) (ev_pos (by omega) (ev_pos (by omega) ?_)))
    rw [same_drop d C n (by omega) (by omega)]
    by_cases e : rd d (n : Int) = rd C n
    · rw [if_pos e, wrap64_in (by omega) (by omega)]
      exact ev_pos e (ih (n + 1) (by omega) (by omega))
    · rw [if_neg e]
      exact ev_neg e (Ev.now _)
theorem refSame_ev (d C : List Int) (hd : d.length ≤ 1000000000) : Ev (fun k => ferruleref12_Same.f k d C) (decide (d = C)) := by
  unfold ferruleref12_Same.f
  by_cases e : d.length = C.length
  · exact ev_pos (by omega) (same_l0 d C hd e _ 0 rfl (by omega))
  · refine ev_neg (by omega) (ev_now ?_)
    symm
    exact decide_eq_false fun h => e (congrArg _ h)
def findP (X : List (List Int)) (c : List Int) : Int := if (cl2 c).2 = true then Fun.idxP (fun d => decide (d = (cl2 c).1)) X else -1
theorem find_l0 (X : List (List Int)) (hX : ∀ d ∈ X, d.length ≤ 1000000000) (hXl : X.length ≤ 1000000000) (c : List Int) : ∀ m n : Nat, X.length - n = m → n ≤ X.length → (∀ j (hj : j < X.length), j < n → decide (X[j] = c) = false) → Ev (fun k => ferruleref22_Find.l0 k X c (n : Int)) (Fun.idxP (fun d => decide (d = c)) X) := by
  intro m
  induction m with
  | zero =>
    intro n hm hn hb
    refine Ev.step (fun k => by rw [ferruleref22_Find.l0]) (ev_neg (by omega) (ev_now ?_))
    rw [Fun.idxP_miss _ X fun j hj => hb j hj (by omega)]
  | succ m ih =>
    intro n hm hn hb
    have hlt : n < X.length := by omega
    refine Ev.step (fun k => by rw [ferruleref22_Find.l0]) (ev_pos (by omega) (ev_pos (by omega) ?_))
    rw [rdL_nat X n hlt]
    refine ev_bind (refSame_ev _ _ (hX _ (List.getElem_mem hlt))) ?_
    by_cases e : X[n] = c
    · refine ev_pos (decide_eq_true e) (ev_now ?_)
      rw [Fun.idxP_hit _ X n hlt (decide_eq_true e) hb]
    · refine ev_neg (by rw [decide_eq_false e]; decide) ?_
      rw [wrap64_in (by omega) (by omega)]
      refine ih (n + 1) (by omega) (by omega) fun j hj hlt2 => ?_
      by_cases ej : j = n
      · subst ej; exact decide_eq_false e
      · exact hb j hj (by omega)
theorem refFind_ev (X : List (List Int)) (hX : ∀ d ∈ X, d.length ≤ 1000000000) (hXl : X.length ≤ 1000000000) (c : List Int) (hc : c.length ≤ 1000000000) : Ev (fun k => ferruleref22_Find.f k X c) (findP X c) := by
  unfold ferruleref22_Find.f findP
  refine ev_bind (cleanR_ev c hc) ?_
  unfold cl2
  by_cases h1 : (cleanP c).2 = true
  · refine ev_pos h1 (Ev.step (fun k => by rw [ferruleref22_Find.j0]) (ev_pos rfl (ev_now ?_)))
    rw [h1]
    split <;> simp
  · refine ev_neg h1 (ev_bind (refGood_ev c hc) (Ev.step (fun k => by rw [ferruleref22_Find.j0]) ?_))
    rw [Bool.eq_false_iff.mpr h1]
    by_cases hg : gd c = true
    · rw [if_pos hg]
      refine ev_neg (by rw [hg]; decide) ?_
      have := find_l0 X hX hXl (cleanP c).1 _ 0 rfl (Nat.zero_le _) (fun j hj h => absurd h (Nat.not_lt_zero _))
      exact this
    · rw [if_neg hg]
      exact ev_pos (by rw [Bool.eq_false_iff.mpr hg]; rfl) (ev_now (by simp))
/-! Going on. -/
theorem refTruth_ev (T : List Int) (hT : T.length ≤ 1000000000) (x : Int) (hx : Lit1 x) : Ev (fun k => ferruleref17_truth.f k T x) (tr T x) := by
  unfold ferruleref17_truth.f tr
  obtain ⟨_, h1, h2⟩ := hx
  refine ev_bind (has_ev T hT x) ?_
  by_cases h : x ∈ T
  · rw [if_pos h]
    exact ev_pos (decide_eq_true h) (Ev.now _)
  · rw [if_neg h]
    refine ev_neg (by simpa using h) ?_
    rw [wrap64_in (by omega) (by omega)]
    refine ev_bind (has_ev T hT (-x)) ?_
    by_cases h' : -x ∈ T
    · rw [if_pos h']
      exact ev_pos (decide_eq_true h') (Ev.now _)
    · rw [if_neg h']
      exact ev_neg (by simpa using h') (Ev.now _)
def fin (f l : Int) : Int × Int := if f = 0 then (0, 0) else if f = 1 then (2, l) else (3, 0)
def stN (T : List Int) : List Int → Int → Int → Int × Int
  | [], f, l => fin f l
  | x :: c, f, l => if tr T x = 1 then (1, 0) else if tr T x = 0 then stN T c (f + 1) x else stN T c f l
theorem state_l0 (T c : List Int) (hT : T.length ≤ 1000000000) (hc : c.length ≤ 1000000) (hx : ∀ x ∈ c, Lit1 x) : ∀ m n : Nat, c.length - n = m → n ≤ c.length → ∀ f l : Int, 0 ≤ f → f ≤ n → Ev (fun k => ferruleref17_State.l0 k c T f l (n : Int)) (stN T (c.drop n) f l) := by
  intro m
  induction m with
  | zero =>
    intro n hm hn f l h0 h1
    refine Ev.step (fun k => by rw [ferruleref17_State.l0]) (ev_neg (by omega) ?_)
    rw [List.drop_eq_nil_of_le (by omega), stN]
    by_cases e0 : f = 0
    · exact ev_pos e0 (ev_now (by unfold fin; rw [if_pos e0]))
    · refine ev_neg e0 ?_
      by_cases e1 : f = 1
      · exact ev_pos e1 (ev_now (by unfold fin; rw [if_neg e0, if_pos e1]))
      · exact ev_neg e1 (ev_now (by unfold fin; rw [if_neg e0, if_neg e1]))
  | succ m ih =>
    intro n hm hn f l h0 h1
    have hlt : n < c.length := by omega
    rw [List.drop_eq_getElem_cons hlt, ← rd_nat c n hlt, stN]
    refine Ev.step (fun k => by rw [ferruleref17_State.l0]) (ev_pos (by omega) (ev_pos (by omega) (ev_bind (refTruth_ev T hT _ (hx _ (by rw [rd_nat c n hlt]; exact List.getElem_mem hlt))) ?_)))
    rw [wrap64_in (x := (n : Int) + 1) (by omega) (by omega), wrap64_in (x := f + 1) (by omega) (by omega)]
    by_cases e1 : tr T (rd c n) = 1
    · rw [if_pos e1]; exact ev_pos e1 (Ev.now _)
    · rw [if_neg e1]
      refine ev_neg e1 ?_
      by_cases e2 : tr T (rd c n) = 0
      · rw [if_pos e2]; exact ev_pos e2 (ih (n + 1) (by omega) (by omega) _ _ (by omega) (by omega))
      · rw [if_neg e2]; exact ev_neg e2 (ih (n + 1) (by omega) (by omega) _ _ h0 (by omega))
theorem stN_true (T : List Int) : ∀ (c : List Int) (f l : Int), (∃ x ∈ c, tr T x = 1) → (stN T c f l).1 = 1 := by
  intro c
  induction c with
  | nil => rintro f l ⟨x, hx, _⟩; cases hx
  | cons y c ih =>
    rintro f l ⟨x, hx, e⟩
    rw [stN]
    by_cases h1 : tr T y = 1
    · rw [if_pos h1]
    · rw [if_neg h1]
      have hx' : x ∈ c := by rcases List.mem_cons.mp hx with rfl | h; exact absurd e h1; exact h
      split <;> exact ih _ _ ⟨x, hx', e⟩
theorem stN_none (T : List Int) : ∀ (c : List Int) (f l : Int), (∀ x ∈ c, tr T x ≠ 1) → ∃ l', stN T c f l = fin (f + (c.filter fun x => decide (tr T x = 0)).length) l' ∧ ((∀ x ∈ c, tr T x = -1) ∨ (l' ∈ c ∧ tr T l' = 0)) := by
  intro c
  induction c with
  | nil => intro f l h; exact ⟨l, by rw [stN]; simp, .inl fun x hx => by cases hx⟩
  | cons y c ih =>
    intro f l h
    have hy := h y (List.mem_cons_self ..)
    rw [stN, if_neg hy]
    by_cases h0 : tr T y = 0
    · rw [if_pos h0, List.filter_cons_of_pos (by simpa using h0), List.length_cons]
      obtain ⟨l', e, hl⟩ := ih (f + 1) y fun x hx => h x (List.mem_cons_of_mem _ hx)
      by_cases hz : (c.filter fun x => decide (tr T x = 0)).length = 0
      · refine ⟨if (c.filter fun x => decide (tr T x = 0)).length = 0 then y else l', ?_, .inr ?_⟩
        · rw [if_pos hz, e]
          have hl2 : ∀ x ∈ c, tr T x = -1 := by
            rcases hl with hl | ⟨h1, h2⟩
            · exact hl
            · have := List.length_pos_of_mem (List.mem_filter.mpr ⟨h1, by simpa using h2⟩ : l' ∈ c.filter fun x => decide (tr T x = 0))
              omega
          have e2 : ∀ (c : List Int) f, (∀ x ∈ c, tr T x = -1) → stN T c f y = fin f y := by
            intro c
            induction c with
            | nil => intro f _; rfl
            | cons z c ihc =>
              intro f hz
              have := hz z (List.mem_cons_self ..)
              rw [stN, if_neg (by omega), if_neg (by omega)]
              exact ihc f fun x hx => hz x (List.mem_cons_of_mem _ hx)
          rw [← e, e2 c _ hl2, hz]
          congr 1
        · rw [if_pos hz]; exact ⟨List.mem_cons_self .., h0⟩
      · refine ⟨l', by rw [e]; congr 1; omega, ?_⟩
        rcases hl with hl | ⟨h1, h2⟩
        · exfalso
          refine hz (List.length_eq_zero_iff.mpr (List.filter_eq_nil_iff.mpr fun x hx => ?_))
          have := hl x hx
          simp; omega
        · exact .inr ⟨List.mem_cons_of_mem _ h1, h2⟩
    · rw [if_neg h0, List.filter_cons_of_neg (by simpa using h0)]
      obtain ⟨l', e, hl⟩ := ih f l fun x hx => h x (List.mem_cons_of_mem _ hx)
      have hm1 : tr T y = -1 := by rcases tr_cases T y with h | h | h <;> omega
      exact ⟨l', e, hl.imp (fun hl x hx => by rcases List.mem_cons.mp hx with rfl | hx; exact hm1; exact hl x hx) fun ⟨h1, h2⟩ => ⟨List.mem_cons_of_mem _ h1, h2⟩⟩
theorem mem_free {T c : List Int} {x : Int} (hx : x ∈ c) (h : tr T x = 0) : x ∈ c.filter fun x => decide (tr T x = 0) := List.mem_filter.mpr ⟨hx, by simpa using h⟩
theorem st_cases (T c : List Int) (hn : c.Nodup) : ((stN T c 0 0).1 = 0 ∧ Fails T c) ∨ ((stN T c 0 0).1 = 2 ∧ Unit1 T c (stN T c 0 0).2) ∨ ((stN T c 0 0).1 ≠ 0 ∧ (stN T c 0 0).1 ≠ 2 ∧ ¬ Fails T c ∧ ∀ x, ¬ Unit1 T c x) := by
  by_cases ht : ∃ x ∈ c, tr T x = 1
  · have h1 := stN_true T c 0 0 ht
    obtain ⟨x, hx, e⟩ := ht
    refine .inr (.inr ⟨by omega, by omega, fun hf => by have := hf x hx; omega, fun y ⟨hy, h0, hall⟩ => ?_⟩)
    by_cases e2 : x = y
    · subst e2; omega
    · have := hall x hx e2; omega
  · obtain ⟨l', e, hl⟩ := stN_none T c 0 0 fun x hx h => ht ⟨x, hx, h⟩
    rw [Int.zero_add] at e
    have hnf : (c.filter fun x => decide (tr T x = 0)).Nodup := hn.filter _
    have hall : ∀ x ∈ c, tr T x = 0 ∨ tr T x = -1 := fun x hx => by rcases tr_cases T x with h | h | h; exact absurd ⟨x, hx, h⟩ ht; exact .inr h; exact .inl h
    match hf : c.filter (fun x => decide (tr T x = 0)), hnf with
    | [], _ =>
      rw [hf] at e
      refine .inl ⟨by rw [e]; rfl, fun x hx => ?_⟩
      rcases hall x hx with h | h
      · have := mem_free hx h
        rw [hf] at this; cases this
      · exact h
    | [a], _ =>
      rw [hf] at e
      have ha := List.mem_filter.mp (show a ∈ c.filter (fun x => decide (tr T x = 0)) by rw [hf]; simp)
      have hone : ∀ x ∈ c, tr T x = 0 → x = a := fun x hx h => by
        have := mem_free hx h
        rw [hf] at this; simpa using this
      have hl2 : l' ∈ c ∧ tr T l' = 0 := by
        rcases hl with hl | hl
        · have := hl a ha.1
          have h0 : tr T a = 0 := by simpa using ha.2
          omega
        · exact hl
      refine .inr (.inl ⟨by rw [e]; rfl, ?_⟩)
      rw [show (stN T c 0 0).2 = l' by rw [e]; rfl]
      refine ⟨hl2.1, hl2.2, fun y hy hne => ?_⟩
      rcases hall y hy with h | h
      · exact absurd ((hone y hy h).trans (hone l' hl2.1 hl2.2).symm) hne
      · exact h
    | a :: b :: r, hnf =>
      rw [hf] at e
      have h3 : (stN T c 0 0).1 = 3 := by
        rw [e]
        unfold fin
        rw [if_neg (by simp; omega), if_neg (by simp; omega)]
      have ha : a ∈ c ∧ tr T a = 0 := by have := List.mem_filter.mp (show a ∈ c.filter (fun x => decide (tr T x = 0)) by rw [hf]; simp); exact ⟨this.1, by simpa using this.2⟩
      have hb : b ∈ c ∧ tr T b = 0 := by have := List.mem_filter.mp (show b ∈ c.filter (fun x => decide (tr T x = 0)) by rw [hf]; simp); exact ⟨this.1, by simpa using this.2⟩
      have hab : a ≠ b := by intro e; subst e; simp at hnf
      refine .inr (.inr ⟨by omega, by omega, fun hf => by have := hf a ha.1; omega, fun y ⟨hy, h0, hall⟩ => ?_⟩)
      by_cases e1 : a = y
      · have := hall b hb.1 (fun e => hab (e1.trans e.symm)); omega
      · have := hall a ha.1 e1; omega
def outP : Option (List Int) → List Int × Bool
  | none => ([], false)
  | some T => (T, true)
def OutL (X : List (List Int)) (T0 : List Int) (r : Option (List Int)) : Prop := Out X T0 r ∧ ∀ T, r = some T → T.length ≤ 1000000
section
variable (X : List (List Int)) (T0 : List Int) (hX : ClsOk X) (hXl : X.length ≤ 1000000)
include hX hXl
theorem close_l1 (N : Nat) (hN : N ≤ 1000000)
    (ih : ∀ T, leftL X T < N → T.length + leftL X T ≤ 1000000 → Way X T0 T → ∃ r, OutL X T0 r ∧ Ev (fun k => ferruleref17_Close.l0 k X T true) (outP r)) : ∀ m n : Nat, X.length - n = m → n ≤ X.length → ∀ (T : List Int) (again : Bool), (again = true → leftL X T < N) → T.length + leftL X T ≤ 1000000 → Way X T0 T →
    (again = false → leftL X T ≤ N ∧ ∀ j (hj : j < X.length), j < n → ¬ Fails T X[j] ∧ ∀ x, ¬ Unit1 T X[j] x) → ∃ r, OutL X T0 r ∧ Ev (fun k => ferruleref17_Close.l1 k X T again (n : Int)) (outP r) := by
  intro m
  induction m with
  | zero =>
    intro n hm hn T again h1 hT hW h2
    cases again with
    | true =>
      obtain ⟨r, hO, hE⟩ := ih T (h1 rfl) hT hW
      exact ⟨r, hO, Ev.step (fun k => by rw [ferruleref17_Close.l1]) (ev_neg (by omega) hE)⟩
    | false =>
      refine ⟨some T, ⟨hW.done fun c hc => ?_, fun T' e => by cases e; omega⟩, Ev.step (fun k => by rw [ferruleref17_Close.l1]) (ev_neg (by omega) (Ev.step (fun k => by rw [ferruleref17_Close.l0]) ?_))⟩
      case false.refine_2 => exact ev_neg (by decide) (Ev.now _)
      obtain ⟨j, hj, rfl⟩ := List.getElem_of_mem hc
      exact (h2 rfl).2 j hj (by omega)
  | succ m ihm =>
    intro n hm hn T again h1 hT hW h2
    have hlt : n < X.length := by omega
    have hmem : X[n] ∈ X := List.getElem_mem hlt
    obtain ⟨c1, c2, c3⟩ := hX _ hmem
    have hst : Ev (fun k => ferruleref17_State.f k X[n] T) (stN T X[n] 0 0) := by
      have := state_l0 T X[n] (by omega) c3 c2 _ 0 rfl (Nat.zero_le _) 0 0 (by decide) (by decide)
      rwa [List.drop_zero] at this
    have hrd := rdL_nat X n hlt
    rcases st_cases T X[n] c1 with ⟨e0, hf⟩ | ⟨e2, hu⟩ | ⟨e0, e2, hf, hu⟩
    · refine ⟨none, ⟨hW.fails hmem hf, fun T' e => by cases e⟩, Ev.step (fun k => by rw [ferruleref17_Close.l1]) (ev_pos (by omega) (ev_pos (by omega) ?_))⟩
      rw [hrd]
      exact ev_bind hst (ev_pos e0 (Ev.now _))
    · have hlt2 := left_put hmem hu.1 hu.2.1
      have hle : leftL X T ≤ N := by
        cases again with
        | true => exact Nat.le_of_lt (h1 rfl)
        | false => exact (h2 rfl).1
      have hlen : (T ++ [(stN T X[n] 0 0).2]).length = T.length + 1 := by simp
      obtain ⟨r, hO, hE⟩ := ihm (n + 1) (by omega) (by omega) (T ++ [(stN T X[n] 0 0).2]) true (fun _ => by omega) (by omega) (hW.put hmem hu (c2 _ hu.1).1) (fun h => by cases h)
      refine ⟨r, hO, Ev.step (fun k => by rw [ferruleref17_Close.l1]) (ev_pos (by omega) (ev_pos (by omega) ?_))⟩
      rw [hrd, wrap64_in (by omega) (by omega)]
      exact ev_bind hst (ev_neg (by omega) (ev_pos e2 (ev_pos (by omega) hE)))
    · obtain ⟨r, hO, hE⟩ := ihm (n + 1) (by omega) (by omega) T again h1 hT hW (fun h => ⟨(h2 h).1, fun j hj hlt2 => by
        by_cases ej : j = n
        · subst ej; exact ⟨hf, hu⟩
        · exact (h2 h).2 j hj (by omega)⟩)
      refine ⟨r, hO, Ev.step (fun k => by rw [ferruleref17_Close.l1]) (ev_pos (by omega) (ev_pos (by omega) ?_))⟩
      rw [hrd, wrap64_in (by omega) (by omega)]
      exact ev_bind hst (ev_neg e0 (ev_neg e2 hE))
theorem close_l0 : ∀ N T, leftL X T ≤ N → N ≤ 1000000 → T.length + leftL X T ≤ 1000000 → Way X T0 T → ∃ r, OutL X T0 r ∧ Ev (fun k => ferruleref17_Close.l0 k X T true) (outP r) := by
  intro N
  induction N with
  | zero =>
    intro T h0 hN hT hW
    obtain ⟨r, hO, hE⟩ := close_l1 X T0 hX hXl 0 hN (fun T h => by omega) _ 0 rfl (Nat.zero_le _) T false (fun h => by cases h) hT hW (fun _ => ⟨by omega, fun j hj h => absurd h (Nat.not_lt_zero _)⟩)
    refine ⟨r, hO, Ev.step (fun k => by rw [ferruleref17_Close.l0]) ?_⟩
    exact ev_pos rfl hE
  | succ N ih =>
    intro T h0 hN hT hW
    obtain ⟨r, hO, hE⟩ := close_l1 X T0 hX hXl (N + 1) hN (fun T h hT hW => ih T (by omega) (by omega) hT hW) _ 0 rfl (Nat.zero_le _) T false (fun h => by cases h) hT hW (fun _ => ⟨h0, fun j hj h => absurd h (Nat.not_lt_zero _)⟩)
    refine ⟨r, hO, Ev.step (fun k => by rw [ferruleref17_Close.l0]) ?_⟩
    exact ev_pos rfl hE
theorem refClose_ev (hC : Cons T0) (hl : T0.length + leftL X T0 ≤ 1000000) : ∃ r, OutL X T0 r ∧ Ev (fun k => ferruleref17_Close.f k X T0) (outP r) := by
  obtain ⟨r, hO, hE⟩ := close_l0 X T0 hX hXl _ T0 (Nat.le_refl _) (by omega) hl (Way.start hC)
  refine ⟨r, hO, ?_⟩
  unfold ferruleref17_Close.f
  exact ev_bind (Ev.now _) (ev_pos (by simp; omega) hE)
end
/-- What Units hands back. -/
def UnitsOut (X : List (List Int)) (lits u : List Int) (ok : Bool) : Prop :=
  if (cl2 lits).2 = true then ∃ r, Out X (cl2 lits).1 r ∧ ok = r.isSome ∧ (r = none → u = []) ∧ ∀ T, r = some T → u = (cleanP T).1 else u = [] ∧ ok = false
theorem Out.len {X : List (List Int)} {T0 : List Int} : True := trivial
theorem UnitsOut.one {X : List (List Int)} {lits u u' : List Int} {ok ok' : Bool} (h : UnitsOut X lits u ok) (h' : UnitsOut X lits u' ok') : u = u' ∧ ok = ok' := by
  unfold UnitsOut at h h'
  by_cases hc : (cl2 lits).2 = true
  · rw [if_pos hc] at h h'
    obtain ⟨r, hO, e1, e2, e3⟩ := h
    obtain ⟨r', hO', e1', e2', e3'⟩ := h'
    have hs := hO.one hO'
    refine ⟨?_, by rw [e1, e1', hs]⟩
    cases r with
    | none =>
      cases r' with
      | none => rw [e2 rfl, e2' rfl]
      | some T => cases hs
    | some T =>
      cases r' with
      | none => cases hs
      | some T' =>
        rw [e3 T rfl, e3' T' rfl, clean_same (fun x => hO.mem hO' x) hO.2.1]
  · rw [if_neg hc] at h h'
    exact ⟨h.1.trans h'.1.symm, h.2.trans h'.2.symm⟩
end Go.Proofs.Ytohgjbkiemnfnaa.Rup
