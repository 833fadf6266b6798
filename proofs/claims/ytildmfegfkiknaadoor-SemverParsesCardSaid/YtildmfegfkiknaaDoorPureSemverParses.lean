/- SemverParses: the pure statement, for every row of bytes and every place. -/
import Derived.Test.YtildmfegfkiknaaDoorRead03
import Derived.Test.YtildmfegfkiknaaDoorSame03
import Derived.Test.YtildmfegfkiknaaDoorAwake03
import Derived.Test.YtildmfegfkiknaaDoorXn7
namespace Go.Proofs.YtildmfegfkiknaaDoor.Pure
open Go.RowKit Go.Proofs.YtildmfegfkiknaaDoor.X Go.Proofs.YtildmfegfkiknaaDoorW.PrintWords Go.Proofs.YtildmfegfkiknaaDoorW.PrintLast Go.Proofs.YtildmfegfkiknaaDoor.Aid Go.Proofs.YtildmfegfkiknaaDoor.Parse03 Go.Proofs.YtildmfegfkiknaaDoor.RefParse03 Go.Proofs.YtildmfegfkiknaaDoor.Read03

theorem SemverParses : ferrulelaw03_SemverParses.Pure := by
  intro b a _ hwf _
  have hb := u8_wf hwf
  refine Ev.rounds ?_
  unfold ferrulelaw03_SemverParses.f
  refine ev_bind Awake03.awake_ev (ev_pos rfl ?_)
  by_cases h1 : (b.length : Int) > 600
  · exact ev_pos h1 (Ev.now _)
  · have hl : b.length ≤ 1000000000 := by omega
    refine ev_neg h1 (ev_bind (Parse03.parse_ev b hb hl a) (ev_bind (refparse_ev b hb hl a) (ev_bind (read_ev b hb hl) (ev_bind (refread_ev b hb hl) ?_))))
    have few_p : ∀ x, few 1000 x → x.2.2.2.1.length ≤ 140737488351232 ∧ x.2.2.2.2.1.length ≤ 140737488351232 := fun x h => ⟨Nat.le_trans h.1 (by omega), Nat.le_trans h.2 (by omega)⟩
    have hf1 : few 1000 (parseP b a) := by
      unfold parseP
      split
      · exact few_no _ _ _
      · exact p0_few 1000 _ (by rw [List.length_drop]; omega) _
    have hf2 : few 1000 (readP b) := by
      have := p0_few 1000 b (by omega) 0
      unfold readP
      split
      · split
        · exact few_no _ _ _
        · exact this
      · exact this
    refine ev_bind (Same03.same_ev _ _ _ _ _ _ _ _ _ _ (few_p _ hf1).1 (few_p _ hf1).2) ?_
    rw [decide_eq_true ⟨rfl, rfl, rfl, rfl, rfl⟩]
    refine ev_pos rfl (ev_pos rfl (ev_pos rfl (ev_bind (Same03.same_ev _ _ _ _ _ _ _ _ _ _ (few_p _ hf2).1 (few_p _ hf2).2) ?_)))
    rw [decide_eq_true ⟨rfl, rfl, rfl, rfl, rfl⟩]
    exact ev_pos rfl (ev_pos rfl (ev_now (by simp)))
end Go.Proofs.YtildmfegfkiknaaDoor.Pure
