/- Which sizes make a table, and the document's variable of an atom, in plain words. -/
import Derived.Test.YtohgjbkiemnfnaaAtk
namespace Go.Proofs.Ytohgjbkiemnfnaa.Ato
open Go Go.RowKit Go.Proofs.Ytohgjbkiemnfnaa.X Go.Proofs.Ytohgjbkiemnfnaa.Hlp Go.Proofs.YtohgjbkiemnfnaaW.PrintWords Go.Proofs.YtohgjbkiemnfnaaW.PrintLast Go.Proofs.YtohgjbkiemnfnaaW.PrintMore Go.Proofs.Ytohgjbkiemnfnaa.Aid
set_option linter.unusedVariables false
set_option linter.unusedSimpArgs false
theorem tot_small : ∀ (l : List Int), (∀ n ∈ l, 0 ≤ n ∧ n ≤ 6) → tot l ≤ 12 * l.length
  | [], _ => by simp [tot]
  | a :: r, h => by
    have h1 := h a (by simp)
    have h2 := tot_small r fun n hn => h n (by simp [hn])
    simp only [tot, List.map_cons, List.sum_cons, wd, List.length_cons] at *
    omega
theorem first_bad (l : List Int) : ∀ k, k ≤ l.length → (∀ n ∈ l.take k, 0 ≤ n ∧ n ≤ 16777216) ∨ ∃ j, ∃ h : j < l.length, (∀ n ∈ l.take j, 0 ≤ n ∧ n ≤ 16777216) ∧ (l[j] < 0 ∨ 16777216 < l[j])
  | 0, _ => .inl (by simp)
  | k + 1, hk => by
    rcases first_bad l k (by omega) with h | h
    · by_cases hb : l[k] < 0 ∨ 16777216 < l[k]
      · exact .inr ⟨k, by omega, h, hb⟩
      · refine .inl fun n hn => ?_
        rw [List.take_succ_eq_append_getElem (by omega), List.mem_append] at hn
        rcases hn with hn | hn
        · exact h n hn
        · simp at hn; omega
    · exact .inr h
theorem good_l0t (l : List Int) (hl : l.length ≤ 4096) (hn : ∀ n ∈ l, 0 ≤ n ∧ n ≤ 16777216) (ht : tot l ≤ 16777216) : ∀ d i : Nat, l.length - i = d → i ≤ l.length → Ev (fun k => ferruleref13_Good.l0 k l (tot (l.take i)) (i : Int)) true := by
  intro d
  induction d with
  | zero =>
    intro i hd hi
    exact Ev.step (fun k => by rw [ferruleref13_Good.l0]) (ev_neg (by omega) (Ev.now _))
  | succ d ih =>
    intro i hd hi
    have hlt : i < l.length := by omega
    have h3 := tot_nonneg (l := l.take i) fun n h => (hn n (List.mem_of_mem_take h)).1
    have h4 := tot_le (fun n h => (hn n h).1) (i + 1)
    have h5 := hn _ (List.getElem_mem hlt)
    have hts : tot (l.take (i + 1)) = tot (l.take i) + wd l[i] := by rw [List.take_succ_eq_append_getElem hlt, tot_snoc]
    have hih := ih (i + 1) (by omega) (by omega)
    rw [hts] at hih
    refine Ev.step (fun k => by rw [ferruleref13_Good.l0]) (ev_pos (by omega) (ev_pos (by omega) ?_))
    rw [rd_at l i hlt]
    refine ev_neg (by omega) ?_
    refine Ev.step (fun k => by rw [ferruleref13_Good.j1]) (ev_neg (by simp; omega) (ev_pos (by omega) (ev_pos (by omega) ?_)))
    rw [rd_at l i hlt]
    have hwi : wrap64 ((i : Int) + 1) = ((i + 1 : Nat) : Int) := by rw [wrap64_in (by omega) (by omega)]; omega
    rw [hwi]
    have hwd : 0 ≤ wd l[i] := by unfold wd; omega
    by_cases hp : l[i] > 0
    · have hw : wrap64 ((wrap64 ((wrap64 ((wrap64 (tot (l.take i) + 1)) + l[i])) + l[i])) - 1) = tot (l.take i) + wd l[i] := by
        rw [wrap64_in (x := tot (l.take i) + 1) (by omega) (by omega), wrap64_in (x := tot (l.take i) + 1 + l[i]) (by omega) (by omega), wrap64_in (x := tot (l.take i) + 1 + l[i] + l[i]) (by omega) (by omega), wrap64_in (by omega) (by omega)]
        unfold wd; omega
      rw [hw]
      exact ev_pos hp (ev_neg (by omega) hih)
    · have hw : wrap64 ((wrap64 (tot (l.take i) + 1)) + l[i]) = tot (l.take i) + wd l[i] := by
        rw [wrap64_in (x := tot (l.take i) + 1) (by omega) (by omega), wrap64_in (by omega) (by omega)]
        unfold wd; omega
      rw [hw]
      exact ev_neg hp (ev_neg (by omega) hih)
theorem good_true {l : List Int} (hl : l.length ≤ 4096) (hn : ∀ n ∈ l, 0 ≤ n ∧ n ≤ 16777216) (ht : tot l ≤ 16777216) : ∃ k, ferruleref13_Good.f k l = some true := by
  obtain ⟨k, hk⟩ := (good_l0t l hl hn ht _ 0 rfl (Nat.zero_le _)).rounds
  refine ⟨k, ?_⟩
  unfold ferruleref13_Good.f
  rw [if_neg (by omega)]; simpa [tot] using hk
/-- Small sizes: right ones, or a first wrong one. -/
theorem good_or (l : List Int) (h6 : l.length ≤ 6) (hs : ∀ n ∈ l, n ≤ 6 ∨ 16777216 < n) :
    ((∃ k, ferruleref13_Good.f k l = some true) ∧ (∀ n ∈ l, 0 ≤ n ∧ n ≤ 16777216) ∧ tot l ≤ 16777216) ∨
    (∃ k, ferruleref13_Good.f k l = some false) ∧ ∃ j, ∃ h : j < l.length, (∀ n ∈ l.take j, 0 ≤ n ∧ n ≤ 16777216) ∧ (l[j] < 0 ∨ 16777216 < l[j]) ∧ tot (l.take j) ≤ 16777216 := by
  have ts : ∀ r : List Int, (∀ n ∈ r, n ∈ l) → r.length ≤ 6 → (∀ n ∈ r, 0 ≤ n ∧ n ≤ 16777216) → tot r ≤ 16777216 := fun r h1 h2 h3 => by
    have := tot_small r fun n hn => by have := hs n (h1 n hn); have := h3 n hn; omega
    omega
  rcases first_bad l l.length (Nat.le_refl _) with h | ⟨j, hj, h1, h2⟩
  · rw [List.take_length] at h
    have ht := ts l (fun _ h => h) h6 h
    exact .inl ⟨good_true (by omega) h ht, h, ht⟩
  · refine .inr ⟨?_, j, hj, h1, h2, ts _ (fun n h => List.mem_of_mem_take h) (by rw [List.length_take]; omega) h1⟩
    obtain ⟨k, b, hk, hb⟩ := good_ev l
    cases b with
    | false => exact ⟨k, hk⟩
    | true =>
      have := (hb rfl).2.1 _ (List.getElem_mem hj)
      omega
theorem refvar_l0 {l : List Int} (hn : ∀ n ∈ l, 0 ≤ n ∧ n ≤ 16777216) (ht : tot l ≤ 16777216) (a : S24) : ∀ d i : Nat, (allA l l.length).length - i = d → i ≤ (allA l l.length).length → (∀ j < i, (allA l l.length)[j]? ≠ some a) → Ev (fun k => ferruleref13_Var.l0 k (allA l l.length) (i : Int) a.f0 a.f1 a.f2) (varP l a) := by
  have h1 := allA_len (fun n h => (hn n h).1) l.length (Nat.le_refl _)
  rw [List.take_length] at h1
  have ha := at_of_var (fun n h => (hn n h).1) a
  have hv := fun i => var_at (fun n h => (hn n h).1) i a
  generalize allA l l.length = al at *
  intro d
  induction d with
  | zero =>
    intro i hd hi hno
    refine Ev.step (fun k => by rw [ferruleref13_Var.l0]) (ev_neg (by omega) (ev_now ?_))
    refine Classical.byContradiction fun h => ?_
    have h2 := ha fun e => h e.symm
    exact hno _ (by have := (List.getElem?_eq_some_iff.mp h2).1; omega) h2
  | succ d ih =>
    intro i hd hi hno
    have hlt : i < al.length := by omega
    have hrd : rd_T24 al (i : Int) = al[i] := by unfold rd_T24; simp [List.getD, hlt]
    have hwi : wrap64 ((i : Int) + 1) = ((i + 1 : Nat) : Int) := by rw [wrap64_in (by omega) (by omega)]; omega
    refine Ev.step (fun k => by rw [ferruleref13_Var.l0]) (ev_pos (by omega) (ev_pos (by omega) ?_))
    rw [hrd, hwi]
    by_cases he : al[i] = a
    · refine ev_pos (by rw [he]; simp) (ev_now ?_)
      rw [hv i (by rw [List.getElem?_eq_getElem hlt, he])]; omega
    · refine ev_neg (fun h => he ?_) (ih (i + 1) (by omega) (by omega) fun j hj => ?_)
      · simp only [Bool.and_eq_true, beq_iff_eq] at h
        cases hx : al[i] with
        | mk x y z => rw [hx] at h; cases a; simp_all
      · rcases Nat.lt_succ_iff_lt_or_eq.mp hj with h | rfl
        · exact hno j h
        · rw [List.getElem?_eq_getElem hlt]; exact fun h => he (Option.some.inj h)
theorem refvar_ev {l : List Int} (hl : l.length ≤ 4096) (hn : ∀ n ∈ l, 0 ≤ n ∧ n ≤ 16777216) (ht : tot l ≤ 16777216) (a : S24) : ∃ k, ferruleref13_Var.f k l a.f0 a.f1 a.f2 = some (varP l a) := by
  have h : Ev (fun k => ferruleref13_Var.f k l a.f0 a.f1 a.f2) (varP l a) := by
    unfold ferruleref13_Var.f
    exact ev_bind (all_ev hl hn ht) (refvar_l0 hn ht a _ 0 rfl (Nat.zero_le _) fun j hj => absurd hj (Nat.not_lt_zero j))
  exact h.rounds
end Go.Proofs.Ytohgjbkiemnfnaa.Ato
