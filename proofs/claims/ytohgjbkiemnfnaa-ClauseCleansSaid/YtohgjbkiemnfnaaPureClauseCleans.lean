/- ClauseCleans: the pure statement, for every clause. -/
import Derived.Test.YtohgjbkiemnfnaaClean12
import Derived.Test.YtohgjbkiemnfnaaAwake12
import Derived.Test.YtohgjbkiemnfnaaXn8
namespace Go.Proofs.Ytohgjbkiemnfnaa.Pure
open Go.RowKit Go.Proofs.Ytohgjbkiemnfnaa.X Go.Proofs.YtohgjbkiemnfnaaW.PrintWords Go.Proofs.YtohgjbkiemnfnaaW.PrintMore Go.Proofs.Ytohgjbkiemnfnaa.Aid Go.Proofs.Ytohgjbkiemnfnaa.Clause12 Go.Proofs.Ytohgjbkiemnfnaa.Clean12
theorem same_l0 (l : List Int) (hl : l.length ≤ 1000000000) (d : Nat) : ∀ n : Nat, l.length - n = d → n ≤ l.length → Ev (fun k => ferruleref12_Same.l0 k l l (n : Int)) true := by
  induction d with
  | zero =>
    intro n hd hn
    exact Ev.step (fun k => by rw [ferruleref12_Same.l0]) (ev_neg (by omega) (Ev.now _))
  | succ d ih =>
    intro n hd hn
    refine Ev.step (fun k => by rw [ferruleref12_Same.l0]) (ev_pos (by omega) (ev_pos (by omega) (ev_pos (by omega) (ev_pos rfl ?_))))
    rw [wrap64_in (by omega) (by omega), show (n : Int) + 1 = ((n + 1 : Nat) : Int) by omega]
    exact ih (n + 1) (by omega) (by omega)
theorem same_ev (l : List Int) (hl : l.length ≤ 1000000000) : Ev (fun k => ferruleref12_Same.f k l l) true := by
  unfold ferruleref12_Same.f
  exact ev_pos rfl (same_l0 l hl _ 0 rfl (by omega))
theorem good_l0 (c : List Int) (v : Int) (hc : c.length ≤ 1000000000) (d : Nat) : ∀ n : Nat, c.length - n = d → n ≤ c.length → Ev (fun k => ferruleref12_Good.l0 k c v (n : Int)) (!((c.drop n).any (clause_Good.p v))) := by
  induction d with
  | zero =>
    intro n hd hn
    refine Ev.step (fun k => by rw [ferruleref12_Good.l0]) (ev_neg (by omega) (ev_now ?_))
    rw [List.drop_eq_nil_of_le (by omega)]; rfl
  | succ d ih =>
    intro n hd hn
    have hlt : n < c.length := by omega
    refine Ev.step (fun k => by rw [ferruleref12_Good.l0]) (ev_pos (by omega) (ev_pos (by omega) ?_))
    rw [rd_at c n hlt, drop_one c n hlt, List.any_cons]
    refine ev_bind (var_ev _) ?_
    unfold clause_Good.p
    by_cases h0 : clause_abs.p c[n] = 0
    · refine ev_pos h0 (ev_now ?_)
      rw [h0]; simp
    · refine ev_neg h0 (ev_bind (var_ev _) ?_)
      by_cases h1 : clause_abs.p c[n] > v
      · refine ev_pos h1 (ev_now ?_)
        rw [decide_eq_true h1]; simp
      · refine ev_neg h1 ?_
        rw [decide_eq_false h1, show (clause_abs.p c[n] == 0) = false from by simpa using h0, Bool.or_false, Bool.false_or, wrap64_in (by omega) (by omega), show (n : Int) + 1 = ((n + 1 : Nat) : Int) by omega]
        exact ih (n + 1) (by omega) (by omega)
theorem ClauseCleans : ferrulelaw12_ClauseCleans.Pure := by
  intro c v _ _ _ _
  refine Ev.rounds ?_
  unfold ferrulelaw12_ClauseCleans.f
  refine ev_bind Awake12.awake_ev (ev_pos rfl ?_)
  by_cases h1 : (c.length : Int) > 60
  · exact ev_pos h1 (Ev.now _)
  · refine ev_neg h1 (ev_bind (clean_ev c (by omega)) (ev_bind (cleanR_ev c (by omega)) ?_))
    have hl : (cleanP c).1.length ≤ 1000000000 := by
      have := clean_len c
      unfold cleanP
      split
      · simp
      · show (cleanD c).length ≤ _; omega
    refine ev_bind (same_ev _ hl) (ev_pos rfl (ev_pos (by simp) ?_))
    rw [show clause_Good.f c v = some (!(c.any (clause_Good.p v))) from rfl]
    refine ev_bind (Ev.now _) (ev_bind (a := !(c.any (clause_Good.p v))) ?_ (ev_now (by simp)))
    unfold ferruleref12_Good.f
    exact good_l0 c v (by omega) _ 0 rfl (by omega)
end Go.Proofs.Ytohgjbkiemnfnaa.Pure
