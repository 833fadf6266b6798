/- ClauseOnes: the pure statement, for every clause and every truths. -/
import Derived.Test.YtohgjbkiemnfnaaAwake12
import Derived.Test.YtohgjbkiemnfnaaXn10
namespace Go.Proofs.Ytohgjbkiemnfnaa.Pure
open Go.RowKit Go.Proofs.Ytohgjbkiemnfnaa.X Go.Proofs.YtohgjbkiemnfnaaW.PrintWords Go.Proofs.YtohgjbkiemnfnaaW.PrintMore Go.Proofs.Ytohgjbkiemnfnaa.Aid Go.Proofs.Ytohgjbkiemnfnaa.Clause12
theorem one_at (c : List Int) (n : Nat) (h : n < c.length) : (c.take (n + 1)).drop n = [c[n]] := by
  rw [List.take_succ_eq_append_getElem h, List.drop_append_of_le_length (by rw [List.length_take]; omega), List.drop_eq_nil_of_le (by rw [List.length_take]; omega)]; rfl
theorem holds_cons (x : Int) (t : List Int) (a : List Bool) : holdsP (x :: t) a = (holdsP [x] a || holdsP t a) := by unfold holdsP; simp
theorem fails_cons (x : Int) (t : List Int) (a : List Bool) : failsP (x :: t) a = (failsP [x] a && failsP t a) := by unfold failsP; simp
theorem ones_l0 (c : List Int) (a : List Bool) (hc : c.length ≤ 1000000000) (d : Nat) : ∀ (n : Nat) (one all : Bool), c.length - n = d → n ≤ c.length → holdsP c a = (one || holdsP (c.drop n) a) → failsP c a = (all && failsP (c.drop n) a) →
    Ev (fun k => ferrulelaw12_ClauseOnes.l0 k c a one all (n : Int)) true := by
  induction d with
  | zero =>
    intro n one all hd hn h1 h2
    refine Ev.step (fun k => by rw [ferrulelaw12_ClauseOnes.l0]) (ev_neg (by omega) ?_)
    rw [List.drop_eq_nil_of_le (by omega)] at h1 h2
    rw [holds_some, fails_some, h1, h2]
    refine ev_bind (Ev.now _) (ev_pos ?_ (ev_bind (Ev.now _) (ev_now ?_)))
    · cases one <;> rfl
    · cases all <;> rfl
  | succ d ih =>
    intro n one all hd hn h1 h2
    have hlt : n < c.length := by omega
    rw [drop_one c n hlt] at h1 h2
    rw [holds_cons] at h1
    rw [fails_cons] at h2
    refine Ev.step (fun k => by rw [ferrulelaw12_ClauseOnes.l0]) (ev_pos (by omega) ?_)
    rw [wrap64_in (x := (n : Int) + 1) (by omega) (by omega), show (n : Int) + 1 = ((n + 1 : Nat) : Int) by omega, Int.toNat_natCast, Int.toNat_natCast, one_at c n hlt, holds_some, fails_some]
    cases one with
    | true =>
      refine ev_pos rfl ?_
      cases all with
      | true =>
        refine ev_pos rfl (ev_pos (by omega) (ev_pos (by omega) (ev_pos (by omega) (ev_bind (Ev.now _) (ih (n + 1) _ _ (by omega) (by omega) ?_ ?_)))))
        · rw [h1]; simp
        · rw [h2]; simp
      | false =>
        refine ev_neg (by simp) (ih (n + 1) _ _ (by omega) (by omega) ?_ ?_)
        · rw [h1]; simp
        · rw [h2]; simp
    | false =>
      refine ev_neg (by simp) (ev_pos (by omega) (ev_pos (by omega) (ev_pos (by omega) (ev_bind (Ev.now _) ?_))))
      cases all with
      | true =>
        refine ev_pos rfl (ev_bind (Ev.now _) (ih (n + 1) _ _ (by omega) (by omega) ?_ ?_))
        · rw [h1]; simp
        · rw [h2]; simp
      | false =>
        refine ev_neg (by simp) (ih (n + 1) _ _ (by omega) (by omega) ?_ ?_)
        · rw [h1]; simp
        · rw [h2]; simp
theorem ClauseOnes : ferrulelaw12_ClauseOnes.Pure := by
  intro c a _ _ _
  refine Ev.rounds ?_
  unfold ferrulelaw12_ClauseOnes.f
  refine ev_bind Awake12.awake_ev (ev_pos rfl ?_)
  have hdone : Ev (fun k => ferrulelaw12_ClauseOnes.j0 k c a true) true := Ev.step (fun k => by rw [ferrulelaw12_ClauseOnes.j0]) (ev_pos rfl (Ev.now _))
  by_cases h1 : (c.length : Int) > 60
  · exact ev_pos h1 hdone
  · refine ev_neg h1 ?_
    by_cases h2 : (a.length : Int) > 60
    · rw [decide_eq_true h2]; exact hdone
    · rw [decide_eq_false h2]
      refine Ev.step (fun k => by rw [ferrulelaw12_ClauseOnes.j0]) (ev_neg (by simp) ?_)
      exact ones_l0 c a (by omega) _ 0 false true rfl (by omega) (by simp) (by simp)
end Go.Proofs.Ytohgjbkiemnfnaa.Pure
