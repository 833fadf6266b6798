/- PrecOrders: the pure statement, for every three versions. -/
import Derived.Test.YtildmfegfkiknaaDoorPrec04
import Derived.Test.YtildmfegfkiknaaDoorAwake04
import Derived.Test.YtildmfegfkiknaaDoorXn9
namespace Go.Proofs.YtildmfegfkiknaaDoor.Pure
open Go.RowKit Go.Proofs.YtildmfegfkiknaaDoor.X Go.Proofs.YtildmfegfkiknaaDoorW.PrintWords Go.Proofs.YtildmfegfkiknaaDoor.Aid Go.Proofs.YtildmfegfkiknaaDoor.Prec04

theorem PrecOrders : ferrulelaw04_PrecOrders.Pure := by
  intro a0 a1 a2 p pb b0 b1 b2 q qb c0 c1 c2 r rb _ _ _ _ _ _ _ _ _ _ _ _ _ _ _
  refine Ev.rounds ?_
  unfold ferrulelaw04_PrecOrders.f
  refine ev_bind Awake04.awake_ev (ev_pos rfl (ev_bind (short_ev _ _ _ _ _) ?_))
  have hj1 : Ev (fun k => ferrulelaw04_PrecOrders.j0 k true a0 a1 a2 p pb b0 b1 b2 q qb c0 c1 c2 r rb) true := Ev.step (fun k => by rw [ferrulelaw04_PrecOrders.j0]) (ev_pos rfl (Ev.now _))
  by_cases h1 : shortB p pb = true
  · refine ev_pos h1 (ev_bind (short_ev _ _ _ _ _) ?_)
    by_cases h2 : shortB q qb = true
    · refine ev_pos h2 (ev_bind (short_ev _ _ _ _ _) ?_)
      by_cases h3 : shortB r rb = true
      · rw [h3]
        obtain ⟨hp, hpb⟩ := shortB_ok h1
        obtain ⟨hq, hqb⟩ := shortB_ok h2
        obtain ⟨hr, hrb⟩ := shortB_ok h3
        have hj : Ev (fun k => ferrulelaw04_PrecOrders.j1 k false a0 a1 a2 p pb b0 b1 b2 q qb c0 c1 c2 r rb) true := by
          refine Ev.step (fun k => by rw [ferrulelaw04_PrecOrders.j1]) ?_
          refine ev_neg (by simp) (ev_bind (full_ev a0 a1 a2 p pb b0 b1 b2 q qb hp hq hpb hqb) ?_)
          by_cases g1 : cmpF (([a0, a1, a2], Rows02.dl p), Rows02.dl pb) (([b0, b1, b2], Rows02.dl q), Rows02.dl qb) ≤ 0
          · refine ev_pos g1 (ev_bind (full_ev b0 b1 b2 q qb c0 c1 c2 r rb hq hr hqb hrb) ?_)
            by_cases g2 : cmpF (([b0, b1, b2], Rows02.dl q), Rows02.dl qb) (([c0, c1, c2], Rows02.dl r), Rows02.dl rb) ≤ 0
            · refine ev_pos g2 (ev_bind (full_ev a0 a1 a2 p pb c0 c1 c2 r rb hp hr hpb hrb) (ev_now ?_))
              exact decide_eq_true (good_f.le _ _ _ g1 g2)
            · exact ev_neg g2 (Ev.now _)
          · exact ev_neg g1 (Ev.now _)
        refine Ev.step (fun k => by rw [ferrulelaw04_PrecOrders.j0]) ?_
        refine ev_neg (by simp) (ev_bind (compare_ev a0 a1 a2 p pb b0 b1 b2 q qb hp hq) ?_)
        by_cases g1 : cmpV ([a0, a1, a2], Rows02.dl p) ([b0, b1, b2], Rows02.dl q) ≤ 0
        · refine ev_pos g1 (ev_bind (compare_ev b0 b1 b2 q qb c0 c1 c2 r rb hq hr) ?_)
          by_cases g2 : cmpV ([b0, b1, b2], Rows02.dl q) ([c0, c1, c2], Rows02.dl r) ≤ 0
          · refine ev_pos g2 (ev_bind (compare_ev a0 a1 a2 p pb c0 c1 c2 r rb hp hr) ?_)
            rw [decide_eq_false (by have := good_v.le _ _ _ g1 g2; omega)]
            exact hj
          · exact ev_neg g2 hj
        · exact ev_neg g1 hj
      · rw [Bool.not_eq_true] at h3
        rw [h3]
        exact hj1
    · exact ev_neg h2 hj1
  · exact ev_neg h1 hj1
end Go.Proofs.YtildmfegfkiknaaDoor.Pure
