/- ClauseHolds: the pure statement, for every clause and every truths. -/
import Derived.Test.YtohgjbkiemnfnaaAwake12
import Derived.Test.YtohgjbkiemnfnaaXn9
namespace Go.Proofs.Ytohgjbkiemnfnaa.Pure
open Go.RowKit Go.Proofs.Ytohgjbkiemnfnaa.X Go.Proofs.YtohgjbkiemnfnaaW.PrintWords Go.Proofs.YtohgjbkiemnfnaaW.PrintMore Go.Proofs.Ytohgjbkiemnfnaa.Aid Go.Proofs.Ytohgjbkiemnfnaa.Clause12
theorem ClauseHolds : ferrulelaw12_ClauseHolds.Pure := by
  intro c a _ _ _
  refine Ev.rounds ?_
  unfold ferrulelaw12_ClauseHolds.f
  refine ev_bind Awake12.awake_ev (ev_pos rfl ?_)
  have hdone : Ev (fun k => ferrulelaw12_ClauseHolds.j0 k c a true) true := Ev.step (fun k => by rw [ferrulelaw12_ClauseHolds.j0]) (ev_pos rfl (Ev.now _))
  by_cases h1 : (c.length : Int) > 60
  · exact ev_pos h1 hdone
  · refine ev_neg h1 ?_
    by_cases h2 : (a.length : Int) > 60
    · rw [decide_eq_true h2]; exact hdone
    · rw [decide_eq_false h2]
      refine Ev.step (fun k => by rw [ferrulelaw12_ClauseHolds.j0]) (ev_neg (by simp) ?_)
      rw [holds_some, fails_some]
      refine ev_bind (Ev.now _) (ev_bind (Ev.now _) (ev_bind (holds_ev c a (by omega)) (ev_neg (by simp) (ev_bind (fails_ev c a (by omega)) (ev_neg (by simp) ?_)))))
      have hj1 : ∀ b, b = false → Ev (fun k => ferrulelaw12_ClauseHolds.j1 k c a (holdsP c a) b) true := by
        rintro b rfl
        refine Ev.step (fun k => by rw [ferrulelaw12_ClauseHolds.j1]) (ev_neg (by simp) (ev_bind (clean_ev c (by omega)) ?_))
        unfold cleanP
        by_cases h3 : opp (cleanD c) (cleanD c).length 1 = true
        · rw [if_pos h3]
          exact ev_pos rfl (Ev.now _)
        · rw [if_neg h3]
          refine ev_neg (by simp) ?_
          rw [holds_some]
          refine ev_bind (Ev.now _) (ev_now ?_)
          rw [clean_holds]; simp
      by_cases h4 : holdsP c a = true
      · refine ev_pos h4 ?_
        have : failsP c a = false := by
          unfold failsP
          unfold holdsP at h4
          obtain ⟨x, hx, ht⟩ := List.any_eq_true.mp h4
          have : c.any (fun x => decide (tr x a ≥ 0)) = true := List.any_eq_true.mpr ⟨x, hx, by have := of_decide_eq_true ht; exact decide_eq_true (by omega)⟩
          rw [this]; rfl
        exact hj1 _ this
      · refine ev_neg h4 (hj1 _ rfl)
end Go.Proofs.Ytohgjbkiemnfnaa.Pure
