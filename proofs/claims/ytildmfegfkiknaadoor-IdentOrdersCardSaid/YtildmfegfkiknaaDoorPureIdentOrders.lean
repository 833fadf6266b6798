/- IdentOrders: the pure statement, for every three texts. -/
import Derived.Test.YtildmfegfkiknaaDoorIdent02
import Derived.Test.YtildmfegfkiknaaDoorAwake02
import Derived.Test.YtildmfegfkiknaaDoorXn4
namespace Go.Proofs.YtildmfegfkiknaaDoor.Pure
open Go.RowKit Go.Proofs.YtildmfegfkiknaaDoor.X Go.Proofs.YtildmfegfkiknaaDoorW.PrintWords Go.Proofs.YtildmfegfkiknaaDoorW.PrintLast Go.Proofs.YtildmfegfkiknaaDoor.Aid Go.Proofs.YtildmfegfkiknaaDoor.Ident02

theorem IdentOrders : ferrulelaw02_IdentOrders.Pure := by
  intro a b c ha hb hc
  refine Ev.rounds ?_
  unfold ferrulelaw02_IdentOrders.f
  refine ev_bind Awake02.awake_ev (ev_pos rfl ?_)
  have hj : ∀ x, Ev (fun k => ferrulelaw02_IdentOrders.j0 k a b c x) true := by
    intro x
    refine Ev.step (fun k => by rw [ferrulelaw02_IdentOrders.j0]) ?_
    cases x with
    | true => exact ev_pos rfl (Ev.now _)
    | false =>
      refine ev_neg (by simp) (ev_bind (compare_ev a b ha hb) ?_)
      by_cases h1 : cmpId a.data.toList b.data.toList ≤ 0
      · refine ev_pos h1 (ev_bind (compare_ev b c hb hc) ?_)
        by_cases h2 : cmpId b.data.toList c.data.toList ≤ 0
        · refine ev_pos h2 (ev_bind (compare_ev a c ha hc) (ev_now ?_))
          exact decide_eq_true (good_id.le _ _ _ h1 h2)
        · exact ev_neg h2 (ev_now rfl)
      · exact ev_neg h1 (ev_now rfl)
  by_cases h1 : (a.size : Int) > 300
  · exact ev_pos h1 (hj _)
  · refine ev_neg h1 ?_
    by_cases h2 : (b.size : Int) > 300
    · exact ev_pos h2 (hj _)
    · exact ev_neg h2 (hj _)
end Go.Proofs.YtildmfegfkiknaaDoor.Pure
