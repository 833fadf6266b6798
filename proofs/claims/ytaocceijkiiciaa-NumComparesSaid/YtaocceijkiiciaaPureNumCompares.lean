/- NumCompares: the pure statement, for every two texts of at most 140737488351232 bytes each. -/
import Derived.Test.YtaocceijkiiciaaCmp01
import Derived.Test.YtaocceijkiiciaaAwake01
import Derived.Test.YtaocceijkiiciaaXn7
namespace Go.Proofs.Ytaocceijkiiciaa.Pure
open Go.RowKit Go.Proofs.Ytaocceijkiiciaa.X Go.Proofs.YtaocceijkiiciaaW.PrintWords Go.Proofs.YtaocceijkiiciaaW.PrintLast Go.Proofs.Ytaocceijkiiciaa.Aid Go.Proofs.Ytaocceijkiiciaa.Cmp01

theorem NumCompares : ferrulelaw01_NumCompares.Pure := by
  intro a b ha hb
  refine Ev.rounds ?_
  unfold ferrulelaw01_NumCompares.f
  refine ev_bind Awake01.awake_ev (ev_pos rfl ?_)
  have hj : ∀ c, Ev (fun k => ferrulelaw01_NumCompares.j0 k a b c) true := by
    intro c
    refine Ev.step (fun k => by rw [ferrulelaw01_NumCompares.j0]) ?_
    cases c with
    | true => exact ev_pos rfl (Ev.now _)
    | false =>
      refine ev_neg (by simp) (ev_bind (compare_ev a b ha hb) (ev_bind (is_ev a ha) (ev_bind (refis_ev a ha) (ev_pos (by simp) (ev_bind (refcompare_ev a b ha hb) (ev_pos rfl (ev_bind (compare_ev b a hb ha) (ev_now ?_))))))))
      have hc : cmpN (Go.Proofs.YtaocceijkiiciaaW.PrintWords.bytesOf b) (Go.Proofs.YtaocceijkiiciaaW.PrintWords.bytesOf a) = -cmpN (Go.Proofs.YtaocceijkiiciaaW.PrintWords.bytesOf a) (Go.Proofs.YtaocceijkiiciaaW.PrintWords.bytesOf b) := by
        unfold cmpN
        rw [Bool.and_comm]
        split
        · exact cmpI_flip _ _
        · rfl
      have hr : -1 ≤ cmpN (Go.Proofs.YtaocceijkiiciaaW.PrintWords.bytesOf a) (Go.Proofs.YtaocceijkiiciaaW.PrintWords.bytesOf b) ∧ cmpN (Go.Proofs.YtaocceijkiiciaaW.PrintWords.bytesOf a) (Go.Proofs.YtaocceijkiiciaaW.PrintWords.bytesOf b) ≤ 1 := by
        unfold cmpN cmpI
        (repeat' split) <;> omega
      rw [hc, wrap64_in (by omega) (by omega), beq_self_eq_true]
  by_cases h1 : (a.size : Int) > 200
  · exact ev_pos h1 (hj _)
  · exact ev_neg h1 (hj _)
end Go.Proofs.Ytaocceijkiiciaa.Pure
