/- IdentGood: the pure statement, for every row. -/
import Derived.Test.YtildmfegfkiknaaDoorGood02
import Derived.Test.YtildmfegfkiknaaDoorPureIdentLonger
import Derived.Test.YtildmfegfkiknaaDoorXn11
namespace Go.Proofs.YtildmfegfkiknaaDoor.Pure
open Go.RowKit Go.Proofs.YtildmfegfkiknaaDoor.X Go.Proofs.YtildmfegfkiknaaDoorW.PrintWords Go.Proofs.YtildmfegfkiknaaDoorW.PrintLast Go.Proofs.YtildmfegfkiknaaDoor.Aid Go.Proofs.YtildmfegfkiknaaDoor.Row02 Go.Proofs.YtildmfegfkiknaaDoor.Good02

theorem IdentGood : ferrulelaw02_IdentGood.Pure := by
  intro l pre _
  refine Ev.rounds ?_
  unfold ferrulelaw02_IdentGood.f
  refine ev_bind Awake02.awake_ev (ev_pos rfl ?_)
  by_cases h1 : l.length ≤ 40
  · refine ev_bind (short_ev l h1) ?_
    by_cases h2 : (l.all fun s => decide (s.size ≤ 300)) = true
    · have hs : ∀ x ∈ l, x.size ≤ 300 := fun x hx => of_decide_eq_true (List.all_eq_true.mp h2 x hx)
      have hsz := text_len l h1 hs
      refine ev_pos h2 ?_
      rw [text_some l h1 hs]
      refine ev_bind (Ev.now _) (ev_bind (good_ev l pre h1 hs) (ev_bind (reftext_ev l h1 hs) (ev_pos rfl (ev_bind (refgood_ev l pre h1 hs) ?_))))
      refine Ev.step (fun k => by rw [ferrulelaw02_IdentGood.j0]) (ev_neg (by simp) ?_)
      have hdone : ∀ s, Ev (fun k => ferrulelaw02_IdentGood.j1 k l pre s true) true := fun s => Ev.step (fun k => by rw [ferrulelaw02_IdentGood.j1]) (ev_pos rfl (Ev.now _))
      by_cases h3 : goodL pre l 0 = true
      · refine ev_pos h3 ?_
        cases l with
        | nil => exact hdone _
        | cons x t =>
          rw [show (((x :: t).length : Int) == 0) = false from beq_eq_false_iff_ne.mpr (by rw [List.length_cons]; omega)]
          refine Ev.step (fun k => by rw [ferrulelaw02_IdentGood.j1]) (ev_neg (by simp) (ev_pos (by omega) ?_))
          have hb : bytesOf (textL (x :: t) ++ (⟨#[43]⟩ : ByteArray)) = bytesOf (textL (x :: t)) ++ 43 :: [] := by rw [bs_append]; rfl
          have hr := row_ev (bytesOf (textL (x :: t) ++ (⟨#[43]⟩ : ByteArray))) (bs_bytes _) (by rw [hb, List.length_append, bs_length, List.length_singleton]; omega) 0 pre
          rw [hb, row_back pre 43 (by decide) (by decide) x t [] h3] at hr
          rw [hb]
          refine ev_bind hr (ev_pos rfl (ev_pos rfl (ev_bind (same_ev _ _ (by omega)) (ev_now ?_))))
          exact decide_eq_true rfl
      · exact ev_neg h3 (hdone _)
    · exact ev_neg h2 (Ev.now _)
  · refine ev_bind (a := false) ?_ (ev_neg (by simp) (Ev.now _))
    unfold ferrulelaw02_short.f
    exact ev_pos (by omega) (Ev.now _)
end Go.Proofs.YtildmfegfkiknaaDoor.Pure
