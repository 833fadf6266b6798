/- HintAts: the pure statement, for every script, every place and every number of rounds. -/
import Derived.Test.YtaocceijkiiciaaPureHintRound
import Derived.Test.YtaocceijkiiciaaXn6
namespace Go.Proofs.Ytaocceijkiiciaa.Pure
open Go.RowKit Go.Proofs.Ytaocceijkiiciaa.X Go.Proofs.YtaocceijkiiciaaW.PrintWords Go.Proofs.YtaocceijkiiciaaW.PrintLast Go.Proofs.Ytaocceijkiiciaa.Aid

def bad (x : Int) : Bool := decide (x < 0) || decide (x > 1048576)
theorem bad_fn (x : Int) : hint_right_1.f x = some (bad x) := by
  unfold hint_right_1.f bad
  by_cases h : x < 0
  · rw [if_pos h, decide_eq_true h, Bool.true_or]
  · rw [if_neg h, decide_eq_false h, Bool.false_or]
theorem any_drop (l : List Int) (j : Nat) (h : j < l.length) : (l.drop j).any bad = (bad (rd l (j : Int)) || (l.drop (j + 1)).any bad) := by
  rw [List.drop_eq_getElem_cons h, List.any_cons, rd_of (by omega) (by omega)]
  simp
theorem idx_ev (l : List Int) (hl : l.length ≤ 1000) : ∀ m j : Nat, l.length - j = m → j ≤ l.length →
    ∃ r : Int, Ev (fun k => slices_IndexFunc_int_int__of28.l0 k l (l.length : Int) (j : Int)) r ∧ decide (r ≥ 0) = (l.drop j).any bad
  | 0, j, hm, hj => by
    refine ⟨-1, Ev.step (fun k => by rw [slices_IndexFunc_int_int__of28.l0]) ?_, ?_⟩
    · exact ev_neg (by omega) (Ev.now _)
    · rw [List.drop_of_length_le (by omega)]; rfl
  | m + 1, j, hm, hj => by
    rw [any_drop l j (by omega)]
    cases hb : bad (rd l (j : Int)) with
    | true =>
      refine ⟨j, Ev.step (fun k => by rw [slices_IndexFunc_int_int__of28.l0]) ?_, ?_⟩
      · refine ev_pos (by omega) (ev_pos (by omega) (ev_pos (by omega) ?_))
        rw [bad_fn, hb]
        exact ev_bind (Ev.now _) (ev_pos rfl (Ev.now _))
      · rw [decide_eq_true (by omega), Bool.true_or]
    | false =>
      obtain ⟨r, he, hr⟩ := idx_ev l hl m (j + 1) (by omega) (by omega)
      refine ⟨r, Ev.step (fun k => by rw [slices_IndexFunc_int_int__of28.l0]) ?_, ?_⟩
      · refine ev_pos (by omega) (ev_pos (by omega) (ev_pos (by omega) ?_))
        rw [bad_fn, hb, wrap64_in (by omega) (by omega)]
        exact ev_bind (Ev.now _) (ev_neg (by simp) he)
      · rw [hr, Bool.false_or]
def okL (l : List Int) : Bool := decide (l.length ≤ 1000) && !(l.any bad)
theorem right_ev (l : List Int) : Ev (fun k => hint_right.f k l) (okL l) := by
  unfold hint_right.f okL
  by_cases h : l.length ≤ 1000
  · refine ev_pos (by omega) ?_
    obtain ⟨r, he, hr⟩ := idx_ev l h _ 0 rfl (by omega)
    unfold slices_ContainsFunc_int_int__of28.f slices_IndexFunc_int_int__of28.f
    refine ev_bind (ev_bind he (Ev.now _)) (ev_now ?_)
    rw [hr, decide_eq_true h, Bool.true_and]; rfl
  · refine ev_neg (by omega) (ev_now ?_)
    rw [decide_eq_false h, Bool.false_and]
theorem good_loop (l : List Int) (hl : l.length ≤ 1000) : ∀ m j : Nat, l.length - j = m → j ≤ l.length →
    Ev (fun k => ferruleref20_good.l0 k l (j : Int)) (!(l.drop j).any bad)
  | 0, j, hm, hj => by
    refine Ev.step (fun k => by rw [ferruleref20_good.l0]) (ev_neg (by omega) (ev_now ?_))
    rw [List.drop_of_length_le (by omega)]; rfl
  | m + 1, j, hm, hj => by
    refine Ev.step (fun k => by rw [ferruleref20_good.l0]) (ev_pos (by omega) (ev_pos (by omega) ?_))
    rw [any_drop l j (by omega)]
    unfold bad
    by_cases h1 : rd l (j : Int) < 0
    · refine ev_pos h1 (ev_now ?_)
      rw [decide_eq_true h1]; rfl
    · refine ev_neg h1 ?_
      by_cases h2 : rd l (j : Int) > 1048576
      · refine ev_pos h2 (ev_now ?_)
        rw [decide_eq_true h2, Bool.or_true]; rfl
      · refine ev_neg h2 ?_
        rw [wrap64_in (by omega) (by omega), decide_eq_false h1, decide_eq_false h2, Bool.false_or, Bool.false_or]
        exact good_loop l hl m (j + 1) (by omega) (by omega)
theorem goodL_ev (l : List Int) : Ev (fun k => ferruleref20_good.f k l) (okL l) := by
  unfold ferruleref20_good.f okL
  by_cases h : l.length ≤ 1000
  · refine ev_neg (by omega) ?_
    rw [decide_eq_true h, Bool.true_and]
    exact good_loop l h _ 0 rfl (by omega)
  · refine ev_pos (by omega) (ev_now ?_)
    rw [decide_eq_false h, Bool.false_and]
def okS (p : List Int) (s : List Bool) (r d : List Int) (n : Int) : Bool := okL p && (okL r && (okL d && (decide ((s.length : Int) ≤ 1000) && (decide (n ≥ 0) && decide (n ≤ 1099511627776)))))
theorem ev_and {f : Nat → Option Bool} {g : Nat → Option Bool} {a b : Bool} (hf : Ev f a) (hg : a = true → Ev g b) : Ev (fun k => (f k).bind fun t => if t = true then g k else some false) (a && b) := by
  refine ev_bind hf ?_
  cases a with
  | true => exact ev_pos rfl (hg rfl)
  | false => exact ev_neg (by simp) (Ev.now _)
theorem ev_dand {p : Prop} [Decidable p] {g : Nat → Option Bool} {b : Bool} (hg : p → Ev g b) : Ev (fun k => if p then g k else some false) (decide p && b) := by
  by_cases h : p
  · rw [decide_eq_true h, Bool.true_and]; exact ev_pos h (hg h)
  · rw [decide_eq_false h, Bool.false_and]; exact ev_neg h (Ev.now _)
theorem hgood_ev (p : List Int) (s : List Bool) (r d : List Int) (n : Int) : Ev (fun k => hint_Good.f k p s r d n) (okS p s r d n) := by
  unfold hint_Good.f okS
  exact ev_and (right_ev p) fun _ => ev_and (right_ev r) fun _ => ev_and (right_ev d) fun _ => ev_dand fun _ => ev_dand fun _ => Ev.now _
theorem rgood_ev (p : List Int) (s : List Bool) (r d : List Int) (n : Int) : Ev (fun k => ferruleref20_Good.f k p s r d n) (okS p s r d n) := by
  unfold ferruleref20_Good.f okS
  exact ev_and (goodL_ev p) fun _ => ev_and (goodL_ev r) fun _ => ev_and (goodL_ev d) fun _ => ev_dand fun _ => ev_dand fun _ => Ev.now _

def atV (l : List Int) (i : Int) : Int := if i < 0 then 0 else if l.length = 0 then 0 else rd l (i % (l.length : Int))
theorem hat (l : List Int) (i : Int) : hint_At.f l i = some (atV l i) := by
  unfold atV
  by_cases h : i < 0
  · unfold hint_At.f; rw [if_pos h, if_pos h]
  · rw [if_neg h]; exact at_some l i (by omega)
theorem rat_loop (l : List Int) (hl : 0 < l.length) (hl2 : l.length ≤ 1100) : ∀ (m : Nat) (x : Int), 0 ≤ x → x.toNat ≤ m → x ≤ 100000 →
    Ev (fun k => ferruleref20_At.l1 k l x) (rd l (x % (l.length : Int)))
  | 0, x, h0, hm, _ => by
    refine Ev.step (fun k => by rw [ferruleref20_At.l1]) (ev_neg (by omega) (ev_pos h0 (ev_pos (by omega) (ev_now ?_))))
    rw [Int.emod_eq_of_lt h0 (by omega)]
  | m + 1, x, h0, hm, hx => by
    refine Ev.step (fun k => by rw [ferruleref20_At.l1]) ?_
    by_cases h : x ≥ (l.length : Int)
    · refine ev_pos h ?_
      rw [wrap64_in (by omega) (by omega)]
      have := rat_loop l hl hl2 m (x - (l.length : Int)) (by omega) (by omega) (by omega)
      rwa [Int.sub_emod_right] at this
    · refine ev_neg h (ev_pos h0 (ev_pos (by omega) (ev_now ?_)))
      rw [Int.emod_eq_of_lt h0 (by omega)]
theorem rat_ev (l : List Int) (hl2 : l.length ≤ 1100) (i : Int) : Ev (fun k => ferruleref20_At.f k l i) (atV l i) := by
  unfold ferruleref20_At.f atV
  by_cases h : i < 0
  · rw [if_pos h]
    exact ev_pos h (Ev.step (fun k => by rw [ferruleref20_At.j0]) (ev_pos rfl (Ev.now _)))
  · rw [if_neg h]
    refine ev_neg h (Ev.step (fun k => by rw [ferruleref20_At.j0]) ?_)
    by_cases h0 : l.length = 0
    · rw [if_pos h0]
      exact ev_pos (by simp [h0]) (Ev.now _)
    · rw [if_neg h0]
      refine ev_neg (by simp; intro hc; exact h0 (by rw [hc]; rfl)) ?_
      have hsmall : ∀ x : Int, 0 ≤ x → x ≤ 100000 → Ev (fun k => ferruleref20_At.j2 k l x) (rd l (x % (l.length : Int))) := by
        intro x hx hx2
        refine Ev.step (fun k => by rw [ferruleref20_At.j2]) ?_
        exact rat_loop l (by omega) hl2 _ x hx (Nat.le_refl _) hx2
      refine Ev.step (fun k => by rw [ferruleref20_At.l0]) ?_
      by_cases h1 : i ≥ (l.length : Int)
      · refine ev_pos h1 ?_
        by_cases h2 : i > 100000
        · refine ev_pos h2 (ev_neg (by omega) ?_)
          rw [Int.tmod_eq_emod_of_nonneg (by omega)]
          have h3 := Int.emod_nonneg i (show (l.length : Int) ≠ 0 by omega)
          have h4 := Int.emod_lt_of_pos i (show (0 : Int) < (l.length : Int) by omega)
          refine Ev.step (fun k => by rw [ferruleref20_At.l0]) (ev_neg (by omega) ?_)
          have := hsmall (i % (l.length : Int)) h3 (by omega)
          rwa [Int.emod_emod] at this
        · exact ev_neg h2 (hsmall i (by omega) (by omega))
      · exact ev_neg h1 (hsmall i (by omega) (by omega))
theorem due_some (l : List Int) (i s : Int) : hint_Due.f l i s = some (decide (0 ≤ i) && (decide (i < (l.length : Int)) && (decide (rd l i > 0) && decide (s ≥ rd l i)))) := by
  unfold hint_Due.f
  by_cases h0 : i ≥ 0
  · rw [if_pos h0, decide_eq_true (show 0 ≤ i from h0), Bool.true_and]
    by_cases h1 : i < (l.length : Int)
    · rw [if_pos h1, if_pos (show 0 ≤ i from h0), decide_eq_true h1, Bool.true_and]
      by_cases h2 : rd l i > 0
      · rw [if_pos h2, decide_eq_true h2, Bool.true_and]
      · rw [if_neg h2, decide_eq_false h2, Bool.false_and]
    · rw [if_neg h1, decide_eq_false h1, Bool.false_and]
  · rw [if_neg h0, decide_eq_false (show ¬ 0 ≤ i from h0), Bool.false_and]
def signV (l : List Bool) (i : Int) : Bool := if i < 0 then false else if l.length = 0 then false else rdOf false l (i % (l.length : Int))
theorem sign_all (l : List Bool) (i : Int) : hint_Sign.f l i = some (signV l i) := by
  unfold signV
  by_cases h : i < 0
  · unfold hint_Sign.f; rw [if_neg (by omega), if_pos h]
  · rw [if_neg h]; exact sign_some l i (by omega)

theorem HintAts : ferrulelaw20_HintAts.Pure := by
  intro p s r d n i u _ _ _ _ _ hi _
  refine Ev.rounds ?_
  unfold ferrulelaw20_HintAts.f
  rw [show ferrulelaw20_awake.f = some true by rfl]
  refine ev_bind (Ev.now _) (ev_pos rfl ?_)
  unfold ferrulelaw20_few.f
  have hlast : ((p.length : Int) ≤ 1100) → ∀ x, x = signV s i → Ev (fun k => ferrulelaw20_HintAts.j1 k i u (atV p i) x p s r d n) true := by
    intro hp x hx
    refine Ev.step (fun k => by rw [ferrulelaw20_HintAts.j1]) ?_
    refine ev_bind (hgood_ev p s r d n) (ev_bind (rgood_ev p s r d n) (ev_pos (by simp) ?_))
    rw [hat, due_some, sign_all, hx]
    refine ev_bind (Ev.now _) (ev_pos rfl (ev_bind (Ev.now _) ?_))
    by_cases h1 : i < (p.length : Int)
    · refine ev_pos h1 ?_
      by_cases h2 : atV p i > 0
      · refine ev_pos h2 (ev_pos ?_ (ev_bind (Ev.now _) (ev_now (by simp))))
        have h3 : ¬ i < 0 := by intro hc; unfold atV at h2; rw [if_pos hc] at h2; omega
        have h4 : atV p i = rd p i := by
          unfold atV
          rw [if_neg h3, if_neg (by omega), Int.emod_eq_of_lt (by omega) h1]
        rw [h4] at h2 ⊢
        rw [decide_eq_true (show 0 ≤ i by omega), decide_eq_true h1, decide_eq_true h2]
        simp
      · refine ev_neg h2 (ev_pos ?_ (ev_bind (Ev.now _) (ev_now (by simp))))
        by_cases h3 : i < 0
        · rw [decide_eq_false (show ¬ 0 ≤ i by omega)]; rfl
        · have h4 : atV p i = rd p i := by
            unfold atV
            rw [if_neg h3, if_neg (by omega), Int.emod_eq_of_lt (by omega) h1]
          rw [h4] at h2
          rw [decide_eq_false h2]; simp
    · refine ev_neg h1 (ev_pos ?_ (ev_bind (Ev.now _) (ev_now (by simp))))
      rw [decide_eq_false h1]; simp
  have hj0 : ((p.length : Int) ≤ 1100) → ∀ b, b = decide (0 ≤ i ∧ (s.length : Int) > 0) → Ev (fun k => ferrulelaw20_HintAts.j0 k i u (atV p i) false b p s r d n) true := by
    intro hp b hb
    refine Ev.step (fun k => by rw [ferrulelaw20_HintAts.j0]) ?_
    by_cases h : 0 ≤ i ∧ (s.length : Int) > 0
    · refine ev_pos (by rw [hb, decide_eq_true h]) (ev_neg (by omega) ?_)
      rw [Int.tmod_eq_emod_of_nonneg h.1]
      have h3 := Int.emod_nonneg i (show (s.length : Int) ≠ 0 by omega)
      have h4 := Int.emod_lt_of_pos i h.2
      refine ev_pos h3 (ev_pos h4 (hlast hp _ ?_))
      unfold signV
      rw [if_neg (by omega), if_neg (by omega)]
    · refine ev_neg (by rw [hb, decide_eq_false h]; simp) (hlast hp _ ?_)
      unfold signV
      by_cases h2 : i < 0
      · rw [if_pos h2]
      · rw [if_neg h2, if_pos (by omega)]
  by_cases h1 : (p.length : Int) ≤ 1100
  · rw [if_pos h1]
    have hgo : Ev (fun k => (ferruleref20_At.f k p i).bind fun t104 => (if i ≥ 0 then (ferrulelaw20_HintAts.j0 k i u t104 false (decide ((s.length : Int) > 0)) p s r d n) else (ferrulelaw20_HintAts.j0 k i u t104 false false p s r d n))) true := by
      refine ev_bind (rat_ev p (by omega) i) ?_
      by_cases h2 : i ≥ 0
      · refine ev_pos h2 (hj0 h1 _ ?_)
        by_cases h3 : (s.length : Int) > 0
        · rw [decide_eq_true h3, decide_eq_true ⟨h2, h3⟩]
        · rw [decide_eq_false h3, decide_eq_false (fun h => h3 h.2)]
      · refine ev_neg h2 (hj0 h1 _ ?_)
        rw [decide_eq_false (fun h => h2 h.1)]
    by_cases h2 : (r.length : Int) ≤ 1100
    · rw [if_pos h2]
      by_cases h3 : (d.length : Int) ≤ 1100
      · rw [if_pos h3]
        refine ev_bind (Ev.now _) ?_
        by_cases h4 : (s.length : Int) ≤ 1100
        · exact ev_pos (by rw [decide_eq_true h4]) hgo
        · exact ev_neg (by rw [decide_eq_false h4]; simp) (Ev.now _)
      · rw [if_neg h3]; exact ev_bind (Ev.now _) (ev_neg (by simp) (Ev.now _))
    · rw [if_neg h2]; exact ev_bind (Ev.now _) (ev_neg (by simp) (Ev.now _))
  · rw [if_neg h1]; exact ev_bind (Ev.now _) (ev_neg (by simp) (Ev.now _))
end Go.Proofs.Ytaocceijkiiciaa.Pure
