/- NumPlaces: the pure statement, for every two rows of bytes (their elements from 0 to 255) of at most 140737488351232 bytes each. -/
import Derived.Test.YtaocceijkiiciaaNum
import Derived.Test.YtaocceijkiiciaaAwake01
import Derived.Test.YtaocceijkiiciaaXn5
namespace Go.Proofs.Ytaocceijkiiciaa.Pure
open Go.RowKit Go.Proofs.Ytaocceijkiiciaa.X Go.Proofs.YtaocceijkiiciaaW.PrintWords Go.Proofs.YtaocceijkiiciaaW.PrintLast Go.Proofs.Ytaocceijkiiciaa.Aid Go.Proofs.Ytaocceijkiiciaa.Digits

theorem np_at (l m : List Int) : np (l ++ m) (l.length : Int) = np m 0 := by
  unfold np
  have e : (l ++ m).drop (l.length : Int).toNat = m := by simp
  rw [e]
  simp only [show (0 : Int).toNat = 0 from rfl, List.drop_zero]
  by_cases h : (l.length : Int) < 0 ∨ ((l ++ m).length : Int) < l.length
  · exfalso
    rw [List.length_append] at h
    omega
  · rw [if_neg h, if_neg (by omega : ¬ ((0 : Int) < 0 ∨ (m.length : Int) < 0))]

theorem NumPlaces : ferrulelaw01_NumPlaces.Pure := by
  intro l m _ hsz hwf _ hsz2 hwf2
  have hb := u8_wf hwf
  have hb2 := u8_wf hwf2
  refine Ev.rounds ?_
  unfold ferrulelaw01_NumPlaces.f
  refine ev_bind Awake01.awake_ev (ev_pos rfl ?_)
  have hj : ∀ b, (b = true ∨ (l.length ≤ 100 ∧ m.length ≤ 100)) → Ev (fun k => ferrulelaw01_NumPlaces.j0 k l m b) true := by
    intro b h
    refine Ev.step (fun k => by rw [ferrulelaw01_NumPlaces.j0]) ?_
    cases b with
    | true => exact ev_pos rfl (Ev.now _)
    | false =>
      have h2 := h.resolve_left (by simp)
      refine ev_neg (by simp) (ev_bind (Num.parse_ev hb2 (by omega)) (ev_bind (Ev.now _) (ev_pos (by simp; omega) (ev_bind (Ev.now _) (ev_pos (by simp; omega) ?_)))))
      simp only [List.nil_append]
      have e : np (l ++ m) (l.length : Int) = np m 0 := np_at l m
      have hp := Num.parse_ev (l := l ++ m) (a := (l.length : Int)) (fun x hx => (List.mem_append.mp hx).elim (hb x) (hb2 x)) (by rw [List.length_append]; omega)
      rw [e] at hp
      exact ev_bind hp (ev_pos rfl (ev_pos rfl (ev_now (by simp))))
  by_cases h1 : (l.length : Int) > 100
  · exact ev_pos h1 (hj _ (.inl rfl))
  · refine ev_neg h1 (hj _ ?_)
    by_cases h2 : (m.length : Int) > 100
    · exact .inl (decide_eq_true h2)
    · exact .inr ⟨by omega, by omega⟩
end Go.Proofs.Ytaocceijkiiciaa.Pure
