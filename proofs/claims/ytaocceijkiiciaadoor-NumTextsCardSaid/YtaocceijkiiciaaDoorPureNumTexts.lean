/- NumTexts: the pure statement, for every number and every byte. -/
import Derived.Test.YtaocceijkiiciaaDoorPureNumOrders
import Derived.Test.YtaocceijkiiciaaDoorXn3
namespace Go.Proofs.YtaocceijkiiciaaDoor.Pure
open Go.RowKit Go.Proofs.YtaocceijkiiciaaDoor.X Go.Proofs.YtaocceijkiiciaaDoorW.PrintWords Go.Proofs.YtaocceijkiiciaaDoorW.PrintLast Go.Proofs.YtaocceijkiiciaaDoor.Aid Go.Proofs.YtaocceijkiiciaaDoor.Digits Go.Proofs.YtaocceijkiiciaaDoor.Is01 Go.Proofs.YtaocceijkiiciaaDoor.Text01

theorem run_all (d : List Int) (b : Int) (hd : ∀ c ∈ d, isd c = true) (hb : isd b = false) : run (d ++ [b]) = d := by
  unfold run
  induction d with
  | nil => rw [List.nil_append, List.takeWhile_cons, if_neg (by rw [hb]; simp)]
  | cons c d ih => rw [List.cons_append, List.takeWhile_cons, if_pos (hd c List.mem_cons_self), ih (fun x hx => hd x (List.mem_cons_of_mem _ hx))]
theorem np_text (v b : Int) (h0 : 0 ≤ v) (hb : isd b = false) : np (dig v ++ [b]) 0 = if maxF < v then (0, 0, 4) else (v, ((dig v).length : Int), 0) := by
  have hp := dig_pos h0
  unfold np
  rw [if_neg (by omega), show (0 : Int).toNat = 0 from rfl, List.drop_zero, run_all _ _ (dig_isd h0) hb, if_neg (by omega), if_neg ?_, dig_val h0]
  rintro ⟨h1, h2⟩
  by_cases hv : v = 0
  · rw [hv, dig_zero] at h1
    exact absurd h1 (by decide)
  · exact dig_lead (v := v) (by omega) h2
theorem NumTexts : ferrulelaw01_NumTexts.Pure := by
  intro v b hv hb
  have v1 := u64_wf hv
  have b1 : 0 ≤ b ∧ b < 256 := by
    simp only [Lit.wf, IntKind.min, IntKind.max, IntKind.signed, IntKind.bits, Bool.and_eq_true] at hb
    simp at hb
    omega
  refine Ev.rounds ?_
  unfold ferrulelaw01_NumTexts.f
  refine ev_bind Awake01.awake_ev (ev_pos rfl ?_)
  rw [text_some v v1.1 v1.2]
  have sv := txt_size v v1.2
  have dl := dig_len v v1.2
  refine ev_bind (Ev.now _) (ev_bind (reftext_ev v v1.1 v1.2) (ev_pos rfl (ev_bind (is_ev (txt v) (by omega)) ?_)))
  rw [bs_txt, dig_num v1.1]
  refine Ev.step (fun k => by rw [ferrulelaw01_NumTexts.j0]) (ev_neg (by simp) ?_)
  have hbad : isd b = false → Ev (fun k => ferrulelaw01_NumTexts.j1 k v b (txt v) false) true := by
    intro hi
    refine Ev.step (fun k => by rw [ferrulelaw01_NumTexts.j1]) (ev_neg (by simp) (ev_bind (Ev.now _) ?_))
    rw [bs_txt]
    have hp := Num.parse_ev (l := dig v ++ [b]) (a := 0) (fun x hx => by
      rcases List.mem_append.mp hx with h | h
      · have := (isd_iff x).mp (dig_isd v1.1 x h); omega
      · rw [List.mem_singleton.mp h]; exact b1) (by rw [List.length_append, List.length_singleton]; omega)
    rw [np_text v b v1.1 hi] at hp
    have hs : ((txt v).size : Int) = ((dig v).length : Int) := by rw [← bs_txt, bs_length]
    refine ev_pos (by omega) (ev_bind hp ?_)
    by_cases hm : v > 9223372036854775807
    · rw [if_pos (show maxF < v from hm)]
      exact ev_pos hm (ev_pos rfl (ev_pos rfl (ev_now rfl)))
    · rw [if_neg (show ¬ maxF < v from hm)]
      exact ev_neg hm (ev_pos rfl (ev_pos rfl (ev_now (by simp [hs]))))
  have hgood : Ev (fun k => ferrulelaw01_NumTexts.j1 k v b (txt v) true) true := by
    refine Ev.step (fun k => by rw [ferrulelaw01_NumTexts.j1]) ?_
    exact ev_pos rfl (Ev.now _)
  by_cases h1 : b ≥ 48
  · refine ev_pos h1 ?_
    by_cases h2 : b ≤ 57
    · rw [decide_eq_true h2]; exact hgood
    · rw [decide_eq_false h2]; exact hbad (by unfold isd; rw [decide_eq_false h2, Bool.and_false])
  · exact ev_neg h1 (hbad (by unfold isd; rw [decide_eq_false (by omega), Bool.false_and]))
end Go.Proofs.YtaocceijkiiciaaDoor.Pure
