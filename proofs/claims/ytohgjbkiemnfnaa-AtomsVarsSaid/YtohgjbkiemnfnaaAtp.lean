/- Atoms, in plain words: which sizes are few, which are right; where a truth stands in a row of truths. -/
import Derived.Test.YtohgjbkiemnfnaaAtv
import Derived.Test.YtohgjbkiemnfnaaAid
import Derived.Test.YtohgjbkiemnfnaaXn15
import Derived.Test.YtohgjbkiemnfnaaXn17
namespace Go.Proofs.Ytohgjbkiemnfnaa.Ato
open Go Go.RowKit Go.Proofs.Ytohgjbkiemnfnaa.X Go.Proofs.Ytohgjbkiemnfnaa.Hlp Go.Proofs.YtohgjbkiemnfnaaW.PrintWords Go.Proofs.YtohgjbkiemnfnaaW.PrintLast Go.Proofs.YtohgjbkiemnfnaaW.PrintMore Go.Proofs.Ytohgjbkiemnfnaa.Aid
set_option linter.unusedVariables false
set_option linter.unusedSimpArgs false
theorem rd_at (l : List Int) (n : Nat) (h : n < l.length) : rd l (n : Int) = l[n] := by rw [rd_of (by omega) (by omega)]; rfl
theorem small_l0 (l : List Int) (hl : l.length ≤ 6) : ∀ d i : Nat, l.length - i = d → i ≤ l.length → ∃ b, Ev (fun k => ferrulelaw13_small.l0 k l (i : Int)) b ∧ (b = true → ∀ j (h : j < l.length), i ≤ j → l[j] ≤ 6 ∨ 16777216 < l[j]) := by
  intro d
  induction d with
  | zero =>
    intro i hd hi
    exact ⟨true, Ev.step (fun k => by rw [ferrulelaw13_small.l0]) (ev_neg (by omega) (Ev.now _)), fun _ j h hj => by omega⟩
  | succ d ih =>
    intro i hd hi
    have hlt : i < l.length := by omega
    obtain ⟨b, hb, hp⟩ := ih (i + 1) (by omega) (by omega)
    have hb' : Ev (fun k => ferrulelaw13_small.l0 k l (wrap64 ((i : Int) + 1))) b := by
      rw [wrap64_in (by omega) (by omega), show (i : Int) + 1 = ((i + 1 : Nat) : Int) by omega]; exact hb
    by_cases h6 : l[i] > 6
    · by_cases h7 : l[i] ≤ 16777216
      · refine ⟨false, Ev.step (fun k => by rw [ferrulelaw13_small.l0]) (ev_pos (by omega) (ev_pos (by omega) ?_)), fun h => by cases h⟩
        rw [rd_at l i hlt]
        exact ev_pos h6 (ev_pos h7 (Ev.now _))
      · refine ⟨b, Ev.step (fun k => by rw [ferrulelaw13_small.l0]) (ev_pos (by omega) (ev_pos (by omega) ?_)), fun h j hj hij => ?_⟩
        · rw [rd_at l i hlt]
          exact ev_pos h6 (ev_neg h7 hb')
        · rcases Nat.eq_or_lt_of_le hij with rfl | h2
          · omega
          · exact hp h j hj h2
    · refine ⟨b, Ev.step (fun k => by rw [ferrulelaw13_small.l0]) (ev_pos (by omega) (ev_pos (by omega) ?_)), fun h j hj hij => ?_⟩
      · rw [rd_at l i hlt]
        exact ev_neg h6 hb'
      · rcases Nat.eq_or_lt_of_le hij with rfl | h2
        · omega
        · exact hp h j hj h2
theorem small_ev (l : List Int) : ∃ k b, ferrulelaw13_small.f k l = some b ∧ (b = true → l.length ≤ 6 ∧ ∀ n ∈ l, n ≤ 6 ∨ 16777216 < n) := by
  by_cases hl : l.length ≤ 6
  · obtain ⟨b, hb, hp⟩ := small_l0 l hl _ 0 rfl (Nat.zero_le _)
    obtain ⟨k, hk⟩ := hb.rounds
    refine ⟨k, b, ?_, fun h => ⟨hl, fun n hn => ?_⟩⟩
    · unfold ferrulelaw13_small.f
      rw [if_neg (by omega)]; exact hk
    · obtain ⟨j, hj, rfl⟩ := List.getElem_of_mem hn
      exact hp h j hj (Nat.zero_le _)
  · refine ⟨0, false, ?_, fun h => by cases h⟩
    unfold ferrulelaw13_small.f
    rw [if_pos (by omega)]
theorem good_l0 (l : List Int) (hl : l.length ≤ 4096) : ∀ d i : Nat, l.length - i = d → i ≤ l.length → (∀ n ∈ l.take i, 0 ≤ n ∧ n ≤ 16777216) → tot (l.take i) ≤ 16777216 →
    ∃ b, Ev (fun k => ferruleref13_Good.l0 k l (tot (l.take i)) (i : Int)) b ∧ (b = true → (∀ n ∈ l, 0 ≤ n ∧ n ≤ 16777216) ∧ tot l ≤ 16777216) := by
  intro d
  induction d with
  | zero =>
    intro i hd hi h1 h2
    rw [List.take_of_length_le (by omega)] at h1 h2
    exact ⟨true, Ev.step (fun k => by rw [ferruleref13_Good.l0]) (ev_neg (by omega) (Ev.now _)), fun _ => ⟨h1, h2⟩⟩
  | succ d ih =>
    intro i hd hi h1 h2
    have hlt : i < l.length := by omega
    have h3 := tot_nonneg (l := l.take i) fun n h => (h1 n h).1
    have hts : tot (l.take (i + 1)) = tot (l.take i) + wd l[i] := by rw [List.take_succ_eq_append_getElem hlt, tot_snoc]
    have bad : ∀ x : Bool, x = true → Ev (fun k => ferruleref13_Good.j1 k l (tot (l.take i)) (i : Int) x) false := fun x hx => Ev.step (fun k => by rw [ferruleref13_Good.j1]) (ev_pos hx (Ev.now _))
    by_cases hn0 : l[i] < 0
    · refine ⟨false, Ev.step (fun k => by rw [ferruleref13_Good.l0]) (ev_pos (by omega) (ev_pos (by omega) ?_)), fun h => by cases h⟩
      rw [rd_at l i hlt]
      exact ev_pos hn0 (bad true rfl)
    · by_cases hn1 : l[i] > 16777216
      · refine ⟨false, Ev.step (fun k => by rw [ferruleref13_Good.l0]) (ev_pos (by omega) (ev_pos (by omega) ?_)), fun h => by cases h⟩
        rw [rd_at l i hlt]
        exact ev_neg hn0 (bad _ (decide_eq_true hn1))
      · have go : ∀ b, Ev (fun k => ferruleref13_Good.j1 k l (tot (l.take i)) (i : Int) (decide (l[i] > 16777216))) b → Ev (fun k => ferruleref13_Good.l0 k l (tot (l.take i)) (i : Int)) b := by
          intro b hb
          refine Ev.step (fun k => by rw [ferruleref13_Good.l0]) (ev_pos (by omega) (ev_pos (by omega) ?_))
          rw [rd_at l i hlt]
          exact ev_neg hn0 hb
        have step : ∀ b, (tot (l.take (i + 1)) > 16777216 → b = false) → (tot (l.take (i + 1)) ≤ 16777216 → Ev (fun k => ferruleref13_Good.l0 k l (tot (l.take (i + 1))) ((i + 1 : Nat) : Int)) b) → Ev (fun k => ferruleref13_Good.j1 k l (tot (l.take i)) (i : Int) (decide (l[i] > 16777216))) b := by
          intro b hb1 hb2
          refine Ev.step (fun k => by rw [ferruleref13_Good.j1]) (ev_neg (by simpa using hn1) (ev_pos (by omega) (ev_pos (by omega) ?_)))
          rw [rd_at l i hlt]
          rw [hts] at hb1 hb2
          have hwi : wrap64 ((i : Int) + 1) = ((i + 1 : Nat) : Int) := by rw [wrap64_in (by omega) (by omega)]; omega
          rw [hwi]
          by_cases hp : l[i] > 0
          · have hw : wrap64 ((wrap64 ((wrap64 ((wrap64 (tot (l.take i) + 1)) + l[i])) + l[i])) - 1) = tot (l.take i) + wd l[i] := by
              rw [wrap64_in (x := tot (l.take i) + 1) (by omega) (by omega), wrap64_in (x := tot (l.take i) + 1 + l[i]) (by omega) (by omega), wrap64_in (x := tot (l.take i) + 1 + l[i] + l[i]) (by omega) (by omega), wrap64_in (by omega) (by omega)]
              unfold wd; omega
            rw [hw]
            refine ev_pos hp ?_
            by_cases ht : tot (l.take i) + wd l[i] > 16777216
            · exact ev_pos ht (ev_now (hb1 ht).symm)
            · exact ev_neg ht (hb2 (by omega))
          · have hw : wrap64 ((wrap64 (tot (l.take i) + 1)) + l[i]) = tot (l.take i) + wd l[i] := by
              rw [wrap64_in (x := tot (l.take i) + 1) (by omega) (by omega), wrap64_in (by omega) (by omega)]
              unfold wd; omega
            rw [hw]
            refine ev_neg hp ?_
            by_cases ht : tot (l.take i) + wd l[i] > 16777216
            · exact ev_pos ht (ev_now (hb1 ht).symm)
            · exact ev_neg ht (hb2 (by omega))
        by_cases ht : tot (l.take (i + 1)) ≤ 16777216
        · obtain ⟨b, hb, hp⟩ := ih (i + 1) (by omega) (by omega) (fun n hn => by
            rw [List.take_succ_eq_append_getElem hlt, List.mem_append] at hn
            rcases hn with h | h
            · exact h1 n h
            · simp at h; omega) ht
          exact ⟨b, go b (step b (fun h => by omega) (fun _ => hb)), hp⟩
        · exact ⟨false, go _ (step false (fun _ => rfl) (fun h => absurd h ht)), fun h => by cases h⟩
theorem good_ev (l : List Int) : ∃ k b, ferruleref13_Good.f k l = some b ∧ (b = true → l.length ≤ 4096 ∧ (∀ n ∈ l, 0 ≤ n ∧ n ≤ 16777216) ∧ tot l ≤ 16777216) := by
  by_cases hl : l.length ≤ 4096
  · obtain ⟨b, hb, hp⟩ := good_l0 l hl _ 0 rfl (Nat.zero_le _) (by simp) (by simp [tot])
    obtain ⟨k, hk⟩ := hb.rounds
    refine ⟨k, b, ?_, fun h => ⟨hl, hp h⟩⟩
    unfold ferruleref13_Good.f
    rw [if_neg (by omega)]; simpa [tot] using hk
  · refine ⟨0, false, ?_, fun h => by cases h⟩
    unfold ferruleref13_Good.f
    rw [if_pos (by omega)]

/-- Where a package's truths stand. -/
theorem tr_at {l ch : List Int} (h : ∀ n ∈ l, 0 ≤ n) (p : Nat) : ∀ k, p < k → k ≤ l.length → ∀ off b, (blk (l.getD p 0) (ch.getD p 0))[off]? = some b → (tr l ch k)[(tr l ch p).length + off]? = some b
  | 0, hp, _, _, _, _ => absurd hp (Nat.not_lt_zero p)
  | k + 1, hp, hk, off, b, hb => by
    rcases Nat.eq_or_lt_of_le (Nat.lt_succ_iff.mp hp) with rfl | h2
    · rw [tr, List.getElem?_append_right (by omega), Nat.add_sub_cancel_left]; exact hb
    · have ih := tr_at h p k h2 (by omega) off b hb
      have hlt := (List.getElem?_eq_some_iff.mp ih).1
      rw [tr, List.getElem?_append_left hlt]; exact ih
theorem blk0 (n r : Int) : (blk n r)[0]? = some (decide (0 ≤ r)) := by simp [blk]
theorem blk1 (n r : Int) (k : Nat) (h : (k : Int) < n - 1) : (blk n r)[1 + k]? = some (decide (r ≤ (k : Int))) := by
  unfold blk
  rw [List.append_assoc, List.getElem?_append_right (by simp), show 1 + k - [decide (0 ≤ r)].length = k by simp, List.getElem?_append_left (by rw [lows_len]; omega)]
  rw [lows, List.getElem?_map, List.getElem?_range (by omega)]; rfl
theorem blk2 (n r : Int) (k : Nat) (h : (k : Int) < n) : (blk n r)[1 + (n - 1).toNat + k]? = some (decide (r = (k : Int))) := by
  unfold blk
  rw [List.getElem?_append_right (by simp [lows_len]; omega), show 1 + (n - 1).toNat + k - ([decide (0 ≤ r)] ++ lows n r (n - 1).toNat).length = k by simp [lows_len]; omega]
  rw [eqs, List.getElem?_map, List.getElem?_range (by omega)]; rfl
end Go.Proofs.Ytohgjbkiemnfnaa.Ato
