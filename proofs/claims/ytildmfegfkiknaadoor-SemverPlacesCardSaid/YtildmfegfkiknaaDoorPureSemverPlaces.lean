/- SemverPlaces: the pure statement, for every two rows of bytes. -/
import Derived.Test.YtildmfegfkiknaaDoorParse03
import Derived.Test.YtildmfegfkiknaaDoorSame03
import Derived.Test.YtildmfegfkiknaaDoorAwake03
import Derived.Test.YtildmfegfkiknaaDoorXn8
namespace Go.Proofs.YtildmfegfkiknaaDoor.Pure
open Go.RowKit Go.Proofs.YtildmfegfkiknaaDoor.X Go.Proofs.YtildmfegfkiknaaDoorW.PrintWords Go.Proofs.YtildmfegfkiknaaDoorW.PrintLast Go.Proofs.YtildmfegfkiknaaDoor.Aid Go.Proofs.YtildmfegfkiknaaDoor.Parse03

theorem SemverPlaces : ferrulelaw03_SemverPlaces.Pure := by
  intro l m _ hwf _ hwf2
  have hb := u8_wf hwf
  have hb2 := u8_wf hwf2
  refine Ev.rounds ?_
  unfold ferrulelaw03_SemverPlaces.f
  refine ev_bind Awake03.awake_ev (ev_pos rfl ?_)
  have hj : ∀ b, (b = true ∨ (l.length ≤ 200 ∧ m.length ≤ 200)) → Ev (fun k => ferrulelaw03_SemverPlaces.j0 k l m b) true := by
    intro b h
    refine Ev.step (fun k => by rw [ferrulelaw03_SemverPlaces.j0]) ?_
    cases b with
    | true => exact ev_pos rfl (Ev.now _)
    | false =>
      have h2 := h.resolve_left (by simp)
      refine ev_neg (by simp) (ev_bind (parse_ev m hb2 (by omega) 0) (ev_bind (Ev.now _) (ev_pos (by simp; omega) (ev_bind (Ev.now _) (ev_pos (by simp; omega) ?_)))))
      simp only [List.nil_append]
      have e0 : parseP m 0 = p0 m 0 := by unfold parseP; rw [if_neg (by omega)]; simp
      have e1 : parseP (l ++ m) (l.length : Int) = sh (l.length : Int) (p0 m 0) := by
        unfold parseP
        rw [if_neg (by rw [List.length_append]; omega), ← p0_sh, Int.zero_add]
        congr 1
        simp
      have hf := p0_few 1000 m (by omega) 0
      have hp := parse_ev (l ++ m) (fun x hx => (List.mem_append.mp hx).elim (hb x) (hb2 x)) (by rw [List.length_append]; omega) (l.length : Int)
      rw [e1] at hp
      rw [e0]
      refine ev_bind hp (ev_bind (Same03.same_ev _ _ _ _ _ _ _ _ _ _ (Nat.le_trans hf.1 (by omega)) (Nat.le_trans hf.2 (by omega))) ?_)
      rw [decide_eq_true ⟨rfl, rfl, rfl, rfl, rfl⟩]
      refine ev_pos rfl (ev_pos rfl (ev_now ?_))
      have hn : 0 ≤ (p0 m 0).2.2.2.2.2.1 ∧ (p0 m 0).2.2.2.2.2.1 ≤ 1000 := by
        have := p0_n m 0 (Int.le_refl 0)
        omega
      rw [wrap64_in (by omega) (by omega), beq_iff_eq]
      rfl
  by_cases h1 : (l.length : Int) > 200
  · exact ev_pos h1 (hj _ (.inl rfl))
  · refine ev_neg h1 (hj _ ?_)
    by_cases h2 : (m.length : Int) > 200
    · exact .inl (decide_eq_true h2)
    · exact .inr ⟨by omega, by omega⟩
end Go.Proofs.YtildmfegfkiknaaDoor.Pure
