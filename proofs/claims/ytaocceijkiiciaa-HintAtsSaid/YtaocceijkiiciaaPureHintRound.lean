/- HintRound: the pure statement, for every list of whole numbers, every list of signs, and every number of 16 bits. -/
import Derived.Test.YtaocceijkiiciaaAid
import Derived.Test.YtaocceijkiiciaaXn3
namespace Go.Proofs.Ytaocceijkiiciaa.Pure
open Go.RowKit Go.Proofs.Ytaocceijkiiciaa.X Go.Proofs.YtaocceijkiiciaaW.PrintWords Go.Proofs.YtaocceijkiiciaaW.PrintLast Go.Proofs.Ytaocceijkiiciaa.Aid

theorem at_some (l : List Int) (i : Int) (h : 0 ≤ i) : hint_At.f l i = some (if l.length = 0 then 0 else rd l (i % (l.length : Int))) := by
  unfold hint_At.f
  rw [if_neg (by omega)]
  by_cases h0 : (l.length : Int) = 0
  · rw [if_pos h0, if_pos (by omega)]
  · rw [if_neg h0, if_neg (show ¬ l.length = 0 by omega), Int.tmod_eq_emod_of_nonneg h, if_pos (Int.emod_nonneg _ h0), if_pos (Int.emod_lt_of_pos _ (by omega))]
theorem sign_some (l : List Bool) (i : Int) (h : 0 ≤ i) : hint_Sign.f l i = some (if l.length = 0 then false else rdOf false l (i % (l.length : Int))) := by
  unfold hint_Sign.f
  rw [if_pos (show i ≥ 0 by omega)]
  by_cases h0 : l.length = 0
  · rw [if_neg (show ¬ (l.length : Int) > 0 by omega), if_pos h0]
  · rw [if_pos (show (l.length : Int) > 0 by omega), if_neg h0, if_neg (show ¬ (l.length : Int) = 0 by omega), Int.tmod_eq_emod_of_nonneg h, if_pos (Int.emod_nonneg _ (by omega)), if_pos (Int.emod_lt_of_pos _ (by omega))]
theorem round_same (i n : Int) : (i + n) % n = i % n := by rw [Int.add_emod_right]

theorem HintRound : ferrulelaw20_HintRound.Pure := by
  intro l s a _ _ _ ha
  have h0 : 0 ≤ a ∧ a < 65536 := by
    simp only [Lit.wf, IntKind.min, IntKind.max, IntKind.signed, IntKind.bits, Bool.and_eq_true] at ha
    simp at ha
    omega
  refine Ev.rounds ?_
  unfold ferrulelaw20_HintRound.f
  rw [show ferrulelaw20_awake.f = some true by rfl]
  refine ev_bind (Ev.now _) (ev_pos rfl ?_)
  have hj : ∀ b, (b = true ∨ (l.length ≤ 60 ∧ s.length ≤ 60)) → Ev (fun k => ferrulelaw20_HintRound.j0 k l s a b) true := by
    intro b hb
    refine Ev.step (fun k => by rw [ferrulelaw20_HintRound.j0]) ?_
    cases b with
    | true => exact ev_pos rfl (Ev.now _)
    | false =>
      have h2 := hb.resolve_left (by simp)
      refine ev_neg (by simp) ?_
      rw [wrap64_in (x := a) (by omega) (by omega), Int.tmod_eq_emod_of_nonneg h0.1]
      have h3 := Int.emod_nonneg a (show (10000 : Int) ≠ 0 by omega)
      have h4 := Int.emod_lt_of_pos a (show (0 : Int) < 10000 by omega)
      rw [wrap64_in (x := a % 10000 + (l.length : Int)) (by omega) (by omega), wrap64_in (x := a % 10000 + (s.length : Int)) (by omega) (by omega)]
      rw [at_some l _ h3, at_some l _ (by omega), sign_some s _ h3, sign_some s _ (by omega), round_same, round_same]
      exact ev_bind (Ev.now _) (ev_bind (Ev.now _) (ev_pos rfl (ev_bind (Ev.now _) (ev_bind (Ev.now _) (ev_now (by simp))))))
  by_cases h1 : (l.length : Int) > 60
  · exact ev_pos h1 (hj _ (.inl rfl))
  · refine ev_neg h1 (hj _ ?_)
    by_cases h2 : (s.length : Int) > 60
    · exact .inl (decide_eq_true h2)
    · exact .inr ⟨by omega, by omega⟩
end Go.Proofs.Ytaocceijkiiciaa.Pure
