/- IdentRows: the pure statement, for every bytes, every place. -/
import Derived.Test.YtildmfegfkiknaaDoorRow02
import Derived.Test.YtildmfegfkiknaaDoorAwake02
import Derived.Test.YtildmfegfkiknaaDoorXn3
namespace Go.Proofs.YtildmfegfkiknaaDoor.Pure
open Go.RowKit Go.Proofs.YtildmfegfkiknaaDoor.X Go.Proofs.YtildmfegfkiknaaDoorW.PrintWords Go.Proofs.YtildmfegfkiknaaDoorW.PrintLast Go.Proofs.YtildmfegfkiknaaDoor.Aid Go.Proofs.YtildmfegfkiknaaDoor.Row02

theorem IdentRows : ferrulelaw02_IdentRows.Pure := by
  intro b a pre _ hb _
  refine Ev.rounds ?_
  unfold ferrulelaw02_IdentRows.f
  refine ev_bind Awake02.awake_ev (ev_pos rfl ?_)
  by_cases h1 : (b.length : Int) > 600
  · exact ev_pos h1 (Ev.now _)
  · refine ev_neg h1 (ev_bind (row_ev b (u8_wf hb) (by omega) a pre) (ev_bind (refrow_ev b (u8_wf hb) (by omega) a pre) (ev_bind (same_ev _ _ (rowP_len b (by omega) a pre)) ?_)))
    rw [decide_eq_true rfl]
    exact ev_pos rfl (ev_pos rfl (ev_now (by simp)))
end Go.Proofs.YtildmfegfkiknaaDoor.Pure
