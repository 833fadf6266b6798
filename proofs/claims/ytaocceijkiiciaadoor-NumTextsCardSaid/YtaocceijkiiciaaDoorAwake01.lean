/- What the statements of layer 1 ask first. -/
import Derived.Test.YtaocceijkiiciaaDoorNum
import Derived.Test.YtaocceijkiiciaaDoorXn7
namespace Go.Proofs.YtaocceijkiiciaaDoor.Awake01
open Go.RowKit Go.Proofs.YtaocceijkiiciaaDoor.X Go.Proofs.YtaocceijkiiciaaDoorW.PrintWords Go.Proofs.YtaocceijkiiciaaDoorW.PrintLast Go.Proofs.YtaocceijkiiciaaDoor.Aid Go.Proofs.YtaocceijkiiciaaDoor.Digits
theorem awake_ev : Ev (fun k => ferrulelaw01_awake.f k) true := by
  unfold ferrulelaw01_awake.f
  refine ev_bind (Num.parse_ev (by decide) (by decide)) (ev_bind (Num.parse_ev (by decide) (by decide)) ?_)
  rw [show np [49, 50, 48, 46, 51] 0 = (120, 3, 0) by decide, show np [48, 48, 55] 0 = (0, 0, 3) by decide]
  exact ev_pos rfl (ev_pos rfl (ev_pos rfl (ev_now rfl)))
end Go.Proofs.YtaocceijkiiciaaDoor.Awake01
