/- NameScans: the pure statement, for all bytes and every place. -/
import Derived.Test.YtcebjhbphcoboaaName08
import Derived.Test.YtcebjhbphcoboaaXn3
namespace Go.Proofs.Ytcebjhbphcoboaa.Pure
open Go.RowKit Go.Proofs.Ytcebjhbphcoboaa.X Go.Proofs.YtcebjhbphcoboaaW.PrintWords Go.Proofs.YtcebjhbphcoboaaW.PrintMore Go.Proofs.Ytcebjhbphcoboaa.Aid Go.Proofs.Ytcebjhbphcoboaa.Name08
theorem NameScans : ferrulelaw08_NameScans.Pure := by
  intro l at_ _ _ hw _
  have hb := u8_wf hw
  refine Ev.rounds ?_
  unfold ferrulelaw08_NameScans.f
  refine ev_bind (a := true) (ev_done rfl) (ev_pos rfl ?_)
  by_cases h1 : (l.length : Int) > 600
  · exact ev_pos h1 (Ev.now _)
  · have hsb := bs_ofNums l hb
    have hsz : (strOfNums l).size = l.length := by rw [← bs_length, hsb]
    have hr := scan_r (strOfNums l) (by omega) at_
    rw [hsb] at hr
    refine ev_neg h1 (ev_bind (scan_p l (by omega) hb at_) (ev_bind hr (ev_pos rfl (ev_pos rfl ?_))))
    exact ev_bind (good_p _ (by omega)) (ev_bind (good_r _ (by omega)) (ev_now (by simp)))
end Go.Proofs.Ytcebjhbphcoboaa.Pure
