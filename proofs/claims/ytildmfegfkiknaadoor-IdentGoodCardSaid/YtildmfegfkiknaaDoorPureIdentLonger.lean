/- IdentLonger: the pure statement, for every row and every two texts. -/
import Derived.Test.YtildmfegfkiknaaDoorRows02
import Derived.Test.YtildmfegfkiknaaDoorAwake02
import Derived.Test.YtildmfegfkiknaaDoorXn5
namespace Go.Proofs.YtildmfegfkiknaaDoor.Pure
open Go.RowKit Go.Proofs.YtildmfegfkiknaaDoor.X Go.Proofs.YtildmfegfkiknaaDoorW.PrintWords Go.Proofs.YtildmfegfkiknaaDoorW.PrintLast Go.Proofs.YtildmfegfkiknaaDoor.Aid Go.Proofs.YtildmfegfkiknaaDoor.Ident02 Go.Proofs.YtildmfegfkiknaaDoor.Rows02 Go.Proofs.YtildmfegfkiknaaDoor.Ord

theorem short_l0 (l : List ByteArray) (hl : l.length ≤ 40) (d : Nat) : ∀ n : Nat, l.length - n = d → n ≤ l.length → Ev (fun k => ferrulelaw02_short.l0 k l (n : Int)) ((l.drop n).all fun s => decide (s.size ≤ 300)) := by
  induction d with
  | zero =>
    intro n hd hn
    refine Ev.step (fun k => by rw [ferrulelaw02_short.l0]) (ev_neg (by omega) (ev_now ?_))
    rw [List.drop_eq_nil_of_le (by omega)]
    rfl
  | succ d ih =>
    intro n hd hn
    have hlt : n < l.length := by omega
    refine Ev.step (fun k => by rw [ferrulelaw02_short.l0]) (ev_pos (by omega) (ev_pos (by omega) ?_))
    rw [drop_one l n hlt, rdOf_get l n hlt, List.all_cons]
    by_cases h : (l[n].size : Int) > 300
    · refine ev_pos h (ev_now ?_)
      rw [decide_eq_false (by omega), Bool.false_and]
    · refine ev_neg h ?_
      rw [decide_eq_true (by omega), Bool.true_and, wrap64_in (by omega) (by omega), show (n : Int) + 1 = ((n + 1 : Nat) : Int) by omega]
      exact ih (n + 1) (by omega) (by omega)
theorem short_ev (l : List ByteArray) (hl : l.length ≤ 40) : Ev (fun k => ferrulelaw02_short.f k l) (l.all fun s => decide (s.size ≤ 300)) := by
  unfold ferrulelaw02_short.f
  exact ev_neg (by omega) (short_l0 l hl _ 0 rfl (by omega))
theorem IdentLonger : ferrulelaw02_IdentLonger.Pure := by
  intro l a b hl ha hb
  refine Ev.rounds ?_
  unfold ferrulelaw02_IdentLonger.f
  refine ev_bind Awake02.awake_ev (ev_pos rfl ?_)
  have hj1 : Ev (fun k => ferrulelaw02_IdentLonger.j0 k l a b true) true := Ev.step (fun k => by rw [ferrulelaw02_IdentLonger.j0]) (ev_pos rfl (Ev.now _))
  by_cases h1 : (l.length : Int) > 20
  · exact ev_pos h1 hj1
  · refine ev_neg h1 (ev_bind (short_ev l (by omega)) ?_)
    by_cases h2 : (l.all fun s => decide (s.size ≤ 300)) = true
    · refine ev_pos h2 ?_
      have hs : ∀ s ∈ l, s.size ≤ 140737488351232 := fun s hs => by have := of_decide_eq_true (List.all_eq_true.mp h2 s hs); omega
      have hj : ∀ x, Ev (fun k => ferrulelaw02_IdentLonger.j0 k l a b x) true := by
        intro x
        cases x with
        | true => exact hj1
        | false =>
          have ea : dl ([] ++ l ++ [a]) = dl l ++ [a.data.toList] := by simp [dl]
          have eb : dl ([] ++ l ++ [b]) = dl l ++ [b.data.toList] := by simp [dl]
          have sa : ∀ s ∈ [] ++ l ++ [a], s.size ≤ 140737488351232 := by simp only [List.nil_append, List.mem_append, List.mem_singleton]; rintro s (h | rfl); exact hs s h; exact ha
          have sb : ∀ s ∈ [] ++ l ++ [b], s.size ≤ 140737488351232 := by simp only [List.nil_append, List.mem_append, List.mem_singleton]; rintro s (h | rfl); exact hs s h; exact hb
          have ll : ([] ++ l ++ [a]).length ≤ 140737488351232 := by simp; omega
          refine Ev.step (fun k => by rw [ferrulelaw02_IdentLonger.j0]) ?_
          refine ev_neg (by simp) (ev_bind (Ev.now _) (ev_pos (by simp; omega) (ev_bind (Ev.now _) (ev_pos (by simp; omega) (ev_bind (Ev.now _) (ev_bind (Ev.now _) (ev_pos (by simp; omega) (ev_bind (Ev.now _) (ev_pos (by simp; omega) ?_)))))))))
          refine ev_bind (rows_ev _ _ hs sa (by omega)) ?_
          have e0 := ls_more good_id (dl l) [] [a.data.toList]
          have e1 := ls_more good_id (dl l) [a.data.toList] []
          rw [List.append_nil] at e0 e1
          rw [ea, e0]
          refine ev_pos rfl (ev_bind (rows_ev _ _ sa hs ll) ?_)
          rw [ea, e1]
          refine ev_pos rfl (ev_bind (rows_ev _ _ sa sb ll) (ev_bind (compare_ev a b ha hb) (ev_now ?_)))
          rw [ea, eb, ls_more good_id, beq_iff_eq]
          simp only [cmpLs]
          split
          · rename_i h; exact h.symm
          · rfl
      by_cases h3 : (a.size : Int) > 300
      · exact ev_pos h3 hj1
      · exact ev_neg h3 (hj _)
    · exact ev_neg h2 hj1
end Go.Proofs.YtildmfegfkiknaaDoor.Pure
