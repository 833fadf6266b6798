/- NumParses: the pure statement, for every row of bytes (its elements from 0 to 255) of at most 140737488351232 bytes and every place. -/
import Derived.Test.YtaocceijkiiciaaNum
import Derived.Test.YtaocceijkiiciaaRef01
import Derived.Test.YtaocceijkiiciaaAwake01
import Derived.Test.YtaocceijkiiciaaXn4
namespace Go.Proofs.Ytaocceijkiiciaa.Pure
open Go.RowKit Go.Proofs.Ytaocceijkiiciaa.X Go.Proofs.YtaocceijkiiciaaW.PrintWords Go.Proofs.YtaocceijkiiciaaW.PrintLast Go.Proofs.Ytaocceijkiiciaa.Aid Go.Proofs.Ytaocceijkiiciaa.Digits

theorem NumParses : ferrulelaw01_NumParses.Pure := by
  intro l a _ hsz hwf _
  have hb := u8_wf hwf
  refine Ev.rounds ?_
  unfold ferrulelaw01_NumParses.f
  refine ev_bind Awake01.awake_ev (ev_pos rfl ?_)
  by_cases h : (l.length : Int) > 200
  · exact ev_pos h (Ev.now _)
  · refine ev_neg h (ev_bind (Num.parse_ev hb (by omega)) (ev_bind (Ref01.parse_ev (by rw [strOfNums_size]; omega)) ?_))
    rw [bs_ofNums l hb]
    exact ev_pos rfl (ev_pos rfl (ev_now (by simp)))
end Go.Proofs.Ytaocceijkiiciaa.Pure
