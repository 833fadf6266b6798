/- NumOrders: the pure statement, for every two numbers. -/
import Derived.Test.YtaocceijkiiciaaDoorNumText01
import Derived.Test.YtaocceijkiiciaaDoorCmp01
import Derived.Test.YtaocceijkiiciaaDoorAwake01
import Derived.Test.YtaocceijkiiciaaDoorXn4
namespace Go.Proofs.YtaocceijkiiciaaDoor.Pure
open Go.RowKit Go.Proofs.YtaocceijkiiciaaDoor.X Go.Proofs.YtaocceijkiiciaaDoorW.PrintWords Go.Proofs.YtaocceijkiiciaaDoorW.PrintLast Go.Proofs.YtaocceijkiiciaaDoor.Aid Go.Proofs.YtaocceijkiiciaaDoor.Digits Go.Proofs.YtaocceijkiiciaaDoor.Is01 Go.Proofs.YtaocceijkiiciaaDoor.Cmp01 Go.Proofs.YtaocceijkiiciaaDoor.Text01

theorem u64_wf {a : Int} (h : (Lit.int .u64 a).wf = true) : 0 ≤ a ∧ a < 18446744073709551616 := by
  simp only [Lit.wf, IntKind.min, IntKind.max, IntKind.signed, IntKind.bits, Bool.and_eq_true] at h
  simp at h
  omega
theorem NumOrders : ferrulelaw01_NumOrders.Pure := by
  intro a b ha hb
  have a1 := u64_wf ha
  have b1 := u64_wf hb
  refine Ev.rounds ?_
  unfold ferrulelaw01_NumOrders.f
  refine ev_bind Awake01.awake_ev (ev_pos rfl ?_)
  rw [text_some a a1.1 a1.2, text_some b b1.1 b1.2]
  have sa := txt_size a a1.2
  have sb := txt_size b b1.2
  refine ev_bind (Ev.now _) (ev_bind (Ev.now _) (ev_bind (compare_ev (txt a) (txt b) (by omega) (by omega)) ?_))
  rw [bs_txt, bs_txt, show cmpN (dig a) (dig b) = cmpI a b by unfold cmpN; rw [dig_num a1.1, dig_num b1.1, dig_val a1.1, dig_val b1.1]; rfl]
  have e1 : decide (cmpI a b < 0) = decide (a < b) := by
    rw [decide_eq_decide]; unfold cmpI; (repeat' split) <;> omega
  have e2 : decide (cmpI a b > 0) = decide (a > b) := by
    rw [decide_eq_decide]; unfold cmpI; (repeat' split) <;> omega
  exact ev_pos (by rw [e1]; simp) (ev_now (by rw [e2]; simp))
end Go.Proofs.YtaocceijkiiciaaDoor.Pure
