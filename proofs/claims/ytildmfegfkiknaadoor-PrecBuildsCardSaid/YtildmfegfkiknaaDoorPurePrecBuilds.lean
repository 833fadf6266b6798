/- PrecBuilds: the pure statement, for every two versions. -/
import Derived.Test.YtildmfegfkiknaaDoorPrec04
import Derived.Test.YtildmfegfkiknaaDoorAwake04
import Derived.Test.YtildmfegfkiknaaDoorXn10
namespace Go.Proofs.YtildmfegfkiknaaDoor.Pure
open Go.RowKit Go.Proofs.YtildmfegfkiknaaDoor.X Go.Proofs.YtildmfegfkiknaaDoorW.PrintWords Go.Proofs.YtildmfegfkiknaaDoor.Aid Go.Proofs.YtildmfegfkiknaaDoor.Prec04 Go.Proofs.YtildmfegfkiknaaDoor.Ord

theorem PrecBuilds : ferrulelaw04_PrecBuilds.Pure := by
  intro a0 a1 a2 p pb b0 b1 b2 q qb _ _ _ _ _ _ _ _ _ _
  refine Ev.rounds ?_
  unfold ferrulelaw04_PrecBuilds.f
  refine ev_bind Awake04.awake_ev (ev_pos rfl (ev_bind (short_ev _ _ _ _ _) ?_))
  have hj1 : Ev (fun k => ferrulelaw04_PrecBuilds.j0 k true a0 a1 a2 p pb b0 b1 b2 q qb) true := Ev.step (fun k => by rw [ferrulelaw04_PrecBuilds.j0]) (ev_pos rfl (Ev.now _))
  by_cases h1 : shortB p pb = true
  · refine ev_pos h1 (ev_bind (short_ev _ _ _ _ _) ?_)
    by_cases h2 : shortB q qb = true
    · rw [h2]
      obtain ⟨hp, hpb⟩ := shortB_ok h1
      obtain ⟨hq, hqb⟩ := shortB_ok h2
      have hn : ok [] := ⟨by simp, by simp⟩
      have hf : cmpF (([a0, a1, a2], Rows02.dl p), Rows02.dl []) (([a0, a1, a2], Rows02.dl p), Rows02.dl pb) = cmpLs Ident02.cmpId [] (Rows02.dl pb) := by
        unfold cmpF
        rw [cmpTo, if_pos (good_v.refl _)]
        rfl
      refine Ev.step (fun k => by rw [ferrulelaw04_PrecBuilds.j0]) ?_
      refine ev_neg (by simp) (ev_bind (compare_ev a0 a1 a2 p pb b0 b1 b2 q qb hp hq) (ev_bind (compare_ev a0 a1 a2 p [] b0 b1 b2 q qb hp hq) (ev_pos rfl (ev_bind (compare_ev a0 a1 a2 p pb a0 a1 a2 p [] hp hp) ?_))))
      refine ev_pos (good_v.refl _) (ev_bind (full_ev a0 a1 a2 p [] a0 a1 a2 p pb hp hp hn hpb) ?_)
      rw [hf]
      refine ev_pos ?_ (ev_bind (full_ev a0 a1 a2 p [] a0 a1 a2 p pb hp hp hn hpb) (ev_now ?_))
      · cases Rows02.dl pb <;> simp [cmpLs]
      · rw [hf, beq_iff_eq, Bool.eq_iff_iff, beq_iff_eq, beq_iff_eq, ← dl_nil]
        cases Rows02.dl pb <;> simp [cmpLs]
    · rw [Bool.not_eq_true] at h2
      rw [h2]
      exact hj1
  · exact ev_neg h1 hj1
end Go.Proofs.YtildmfegfkiknaaDoor.Pure
