/- Clauses: what the program's functions and the document's come to. -/
import Derived.Test.YtohgjbkiemnfnaaAid
import Derived.Test.YtohgjbkiemnfnaaXn38
import Derived.Test.YtohgjbkiemnfnaaXn39
import Derived.Test.YtohgjbkiemnfnaaXn33
import Derived.Test.YtohgjbkiemnfnaaXn40
import Derived.Test.YtohgjbkiemnfnaaXn41
namespace Go.Proofs.Ytohgjbkiemnfnaa.Clause12
open Go.RowKit Go.Proofs.Ytohgjbkiemnfnaa.X Go.Proofs.YtohgjbkiemnfnaaW.PrintWords Go.Proofs.YtohgjbkiemnfnaaW.PrintMore Go.Proofs.Ytohgjbkiemnfnaa.Aid

theorem drop_one {α : Type} (l : List α) (n : Nat) (h : n < l.length) : l.drop n = l[n] :: l.drop (n + 1) := List.drop_eq_getElem_cons h
theorem rd_at (l : List Int) (n : Nat) (h : n < l.length) : rd l (n : Int) = l[n] := by rw [rd_of (by omega) (by omega)]; rfl
theorem abs_in (x : Int) : 0 ≤ clause_abs.p x ∧ clause_abs.p x ≤ 16777216 := clause_Holds.abs_bounds x
/-- A literal's variable, as the document says. -/
theorem var_ev (x : Int) : Ev (fun k => ferruleref12_Var.f k x) (clause_abs.p x) := by
  unfold ferruleref12_Var.f clause_abs.p
  by_cases h1 : x < -16777216
  · refine ev_pos h1 (Ev.step (fun k => by rw [ferruleref12_Var.j0]) (ev_pos rfl (ev_now ?_)))
    rw [if_pos h1]
  · refine ev_neg h1 (Ev.step (fun k => by rw [ferruleref12_Var.j0]) ?_)
    rw [if_neg h1]
    by_cases h2 : x > 16777216
    · rw [decide_eq_true h2, if_pos h2]
      exact ev_pos rfl (Ev.now _)
    · rw [decide_eq_false h2, if_neg h2]
      refine ev_neg (by simp) ?_
      by_cases h3 : x < 0
      · exact ev_pos h3 (ev_now (by rw [if_pos h3, wrap64_in (by omega) (by omega)]))
      · exact ev_neg h3 (ev_now (by rw [if_neg h3]))
abbrev tr := clause_Holds.tr
theorem tr_cases (x : Int) (a : List Bool) : tr x a = 0 ∨ tr x a = 1 ∨ tr x a = -1 := by unfold tr clause_Holds.tr; (repeat' split) <;> simp
theorem truth_ev (x : Int) (a : List Bool) : Ev (fun k => ferruleref12_Truth.f k x a) (tr x a) := by
  have hb := abs_in x
  unfold ferruleref12_Truth.f
  refine ev_bind (var_ev x) ?_
  unfold tr clause_Holds.tr
  generalize clause_abs.p x = v at hb ⊢
  by_cases h0 : v = 0
  · refine ev_pos h0 (Ev.step (fun k => by rw [ferruleref12_Truth.j0]) (ev_pos rfl (ev_now ?_)))
    rw [if_pos (.inl h0)]
  · refine ev_neg h0 (Ev.step (fun k => by rw [ferruleref12_Truth.j0]) ?_)
    by_cases h1 : v > (a.length : Int)
    · rw [decide_eq_true h1]
      exact ev_pos rfl (ev_now (by rw [if_pos (.inr h1)]))
    · rw [decide_eq_false h1, if_neg (show ¬ (v = 0 ∨ v > (a.length : Int)) by omega), wrap64_in (by omega) (by omega)]
      refine ev_neg (by simp) (ev_pos (by omega) (ev_pos (by omega) ?_))
      rw [show rdOf false a (v - 1) = a.getD (v - 1).toNat false from rfl]
      by_cases h2 : (a.getD (v - 1).toNat false == decide (x > 0)) = true
      · exact ev_pos h2 (ev_now (by rw [if_pos h2]))
      · exact ev_neg h2 (ev_now (by rw [if_neg h2]))
def holdsP (c : List Int) (a : List Bool) : Bool := c.any fun x => decide (tr x a > 0)
def failsP (c : List Int) (a : List Bool) : Bool := !(c.any fun x => decide (tr x a ≥ 0))
theorem holds_some (c : List Int) (a : List Bool) : clause_Holds.f c a = some (holdsP c a) := rfl
theorem fails_some (c : List Int) (a : List Bool) : clause_Fails.f c a = some (failsP c a) := rfl
section
variable (c : List Int) (a : List Bool) (hc : c.length ≤ 1000000000)
include hc
theorem holds_l0 (d : Nat) : ∀ n : Nat, c.length - n = d → n ≤ c.length → Ev (fun k => ferruleref12_Holds.l0 k c a (n : Int)) (holdsP (c.drop n) a) := by
  induction d with
  | zero =>
    intro n hd hn
    refine Ev.step (fun k => by rw [ferruleref12_Holds.l0]) (ev_neg (by omega) (ev_now ?_))
    rw [List.drop_eq_nil_of_le (by omega)]; rfl
  | succ d ih =>
    intro n hd hn
    have hlt : n < c.length := by omega
    refine Ev.step (fun k => by rw [ferruleref12_Holds.l0]) (ev_pos (by omega) (ev_pos (by omega) ?_))
    rw [rd_at c n hlt, drop_one c n hlt]
    refine ev_bind (truth_ev _ _) ?_
    unfold holdsP
    rw [List.any_cons]
    have ht := tr_cases c[n] a
    by_cases h : tr c[n] a = 1
    · refine ev_pos h (ev_now ?_)
      rw [decide_eq_true (show tr c[n] a > 0 by omega), Bool.true_or]
    · refine ev_neg h ?_
      rw [decide_eq_false (show ¬ tr c[n] a > 0 by omega), Bool.false_or, wrap64_in (by omega) (by omega), show (n : Int) + 1 = ((n + 1 : Nat) : Int) by omega]
      exact ih (n + 1) (by omega) (by omega)
theorem holds_ev : Ev (fun k => ferruleref12_Holds.f k c a) (holdsP c a) := by
  unfold ferruleref12_Holds.f
  exact holds_l0 c a hc _ 0 rfl (by omega)
theorem fails_l0 (d : Nat) : ∀ n : Nat, c.length - n = d → n ≤ c.length → Ev (fun k => ferruleref12_Fails.l0 k c a (n : Int)) (failsP (c.drop n) a) := by
  induction d with
  | zero =>
    intro n hd hn
    refine Ev.step (fun k => by rw [ferruleref12_Fails.l0]) (ev_neg (by omega) (ev_now ?_))
    rw [List.drop_eq_nil_of_le (by omega)]; rfl
  | succ d ih =>
    intro n hd hn
    have hlt : n < c.length := by omega
    refine Ev.step (fun k => by rw [ferruleref12_Fails.l0]) (ev_pos (by omega) (ev_pos (by omega) ?_))
    rw [rd_at c n hlt, drop_one c n hlt]
    refine ev_bind (truth_ev _ _) ?_
    unfold failsP
    rw [List.any_cons]
    have ht := tr_cases c[n] a
    by_cases h : tr c[n] a = -1
    · refine ev_pos h ?_
      rw [decide_eq_false (show ¬ tr c[n] a ≥ 0 by omega), Bool.false_or, wrap64_in (by omega) (by omega), show (n : Int) + 1 = ((n + 1 : Nat) : Int) by omega]
      exact ih (n + 1) (by omega) (by omega)
    · refine ev_neg h (ev_now ?_)
      rw [decide_eq_true (show tr c[n] a ≥ 0 by omega), Bool.true_or]; rfl
theorem fails_ev : Ev (fun k => ferruleref12_Fails.f k c a) (failsP c a) := by
  unfold ferruleref12_Fails.f
  exact fails_l0 c a hc _ 0 rfl (by omega)
end

/-- A clause's literals, in order, each once. -/
def sortP (c : List Int) : List Int := (c.filter fun x => decide (clause_abs.p x > 0)).mergeSort slices_SortFunc_int_int__of68.le
def cleanD (c : List Int) : List Int := Lib.compactUpTo (sortP c).toArray (sortP c).length
theorem mem_compact (l : List Int) (x : Int) : x ∈ Lib.compactUpTo l.toArray l.length ↔ x ∈ l := by
  unfold Lib.compactUpTo
  simp only [List.mem_map, List.mem_filter, List.mem_range]
  constructor
  · rintro ⟨j, ⟨hj, _⟩, rfl⟩
    rw [getElem!_pos l.toArray j (by simpa using hj)]
    exact List.getElem_mem _
  · intro hx
    obtain ⟨j, hj, rfl⟩ := List.getElem_of_mem hx
    clear hx
    induction j with
    | zero => exact ⟨0, ⟨hj, by simp [Lib.keeps]⟩, by rw [getElem!_pos l.toArray 0 (by simpa using hj)]; rfl⟩
    | succ j ih =>
      by_cases e : l[j + 1] = l[j]'(by omega)
      · rw [e]; exact ih (by omega)
      · refine ⟨j + 1, ⟨hj, ?_⟩, by rw [getElem!_pos l.toArray (j + 1) (by simpa using hj)]; rfl⟩
        simp only [Lib.keeps, Nat.add_sub_cancel]
        rw [getElem!_pos l.toArray (j + 1) (by simpa using hj), getElem!_pos l.toArray j (by simp; omega)]
        simpa using e
theorem mem_clean (c : List Int) (x : Int) : x ∈ cleanD c ↔ x ∈ c ∧ clause_abs.p x > 0 := by
  unfold cleanD
  rw [mem_compact]
  unfold sortP
  rw [List.mem_mergeSort, List.mem_filter, decide_eq_true_eq]
theorem clean_len (c : List Int) : (cleanD c).length ≤ c.length := by
  unfold cleanD Lib.compactUpTo
  rw [List.length_map]
  refine Nat.le_trans (List.length_filter_le _ _) ?_
  rw [List.length_range]
  unfold sortP
  rw [List.length_mergeSort]
  exact List.length_filter_le _ _
/-- Does a literal stand ahead of its negation? -/
def opp (d : List Int) : Nat → Nat → Bool
  | 0, _ => false
  | m + 1, i => if h : i < d.length then (if d[i - 1]'(by omega) = -d[i] then true else opp d m (i + 1)) else false
def cleanP (c : List Int) : List Int × Bool := if opp (cleanD c) (cleanD c).length 1 = true then ([], true) else (cleanD c, false)
theorem clean_l1 (d : List Int) (hd : d.length ≤ 1000000000) (hx : ∀ x ∈ d, -16777216 ≤ x ∧ x ≤ 16777216) (m : Nat) : ∀ i : Nat, 1 ≤ i → d.length ≤ i + m → Ev (fun k => clause_Clean.l1 k d (i : Int)) (if opp d m i = true then ([], true) else (d, false)) := by
  induction m with
  | zero =>
    intro i hi hm
    refine Ev.step (fun k => by rw [clause_Clean.l1]) (ev_neg (by omega) (ev_now ?_))
    rfl
  | succ m ih =>
    intro i hi hm
    refine Ev.step (fun k => by rw [clause_Clean.l1]) ?_
    rw [opp]
    by_cases h : i < d.length
    · have hb := hx d[i] (List.getElem_mem h)
      rw [wrap64_in (x := (i : Int) - 1) (by omega) (by omega), dif_pos h]
      refine ev_pos (by omega) (ev_pos (by omega) (ev_pos (by omega) (ev_pos (by omega) ?_)))
      rw [show (i : Int) - 1 = ((i - 1 : Nat) : Int) by omega, rd_at d (i - 1) (by omega), rd_at d i h, wrap64_in (x := -d[i]) (by omega) (by omega)]
      by_cases e : d[i - 1] = -d[i]
      · rw [if_pos e, if_pos rfl]
        exact ev_pos e (Ev.now _)
      · rw [if_neg e]
        refine ev_neg e ?_
        rw [wrap64_in (by omega) (by omega), show (i : Int) + 1 = ((i + 1 : Nat) : Int) by omega]
        exact ih (i + 1) (by omega) (by omega)
    · rw [dif_neg h]
      exact ev_neg (by omega) (Ev.now _)
theorem abs_range {x : Int} (h : clause_abs.p x > 0) : -16777216 ≤ x ∧ x ≤ 16777216 := by unfold clause_abs.p at h; (repeat' split at h) <;> omega
theorem clean_l0 (c : List Int) (hc : c.length ≤ 1000000000) (d : Nat) : ∀ (n : Nat) (acc : List Int), c.length - n = d → n ≤ c.length → acc.length ≤ n → acc ++ (c.drop n).filter (fun x => decide (clause_abs.p x > 0)) = c.filter (fun x => decide (clause_abs.p x > 0)) →
    Ev (fun k => clause_Clean.l0 k acc c (c.length : Int) (n : Int)) (cleanP c) := by
  induction d with
  | zero =>
    intro n acc hd hn ha he
    refine Ev.step (fun k => by rw [clause_Clean.l0]) (ev_neg (by omega) ?_)
    rw [List.drop_eq_nil_of_le (by omega), List.filter_nil, List.append_nil] at he
    rw [he]
    have hs : slices_SortFunc_int_int__of68.f (c.filter fun x => decide (clause_abs.p x > 0)) = some (sortP c) := by
      unfold slices_SortFunc_int_int__of68.f
      rw [if_pos (by have := List.length_filter_le (fun x => decide (clause_abs.p x > 0)) c; omega)]
      rfl
    rw [hs]
    refine ev_bind (Ev.now _) (ev_bind (a := cleanD c) (ev_done rfl) ?_)
    have hl := clean_len c
    exact clean_l1 (cleanD c) (by omega) (fun x hx => abs_range ((mem_clean c x).mp hx).2) _ 1 (Nat.le_refl _) (by omega)
  | succ d ih =>
    intro n acc hd hn ha he
    have hlt : n < c.length := by omega
    refine Ev.step (fun k => by rw [clause_Clean.l0]) (ev_pos (by omega) (ev_pos (by omega) (ev_pos (by omega) ?_)))
    rw [rd_at c n hlt, show clause_abs.f c[n] = some (clause_abs.p c[n]) from rfl, wrap64_in (by omega) (by omega), show (n : Int) + 1 = ((n + 1 : Nat) : Int) by omega]
    refine ev_bind (Ev.now _) ?_
    rw [drop_one c n hlt] at he
    by_cases h : clause_abs.p c[n] > 0
    · refine ev_pos h (ev_pos (by omega) (ih (n + 1) (acc ++ [c[n]]) (by omega) (by omega) (by simp; omega) ?_))
      rw [List.filter_cons_of_pos (by simpa using h)] at he
      rw [← he]; simp
    · refine ev_neg h (ih (n + 1) acc (by omega) (by omega) (by omega) ?_)
      rw [List.filter_cons_of_neg (by simpa using h)] at he
      exact he
theorem clean_ev (c : List Int) (hc : c.length ≤ 1000000000) : Ev (fun k => clause_Clean.f k c) (cleanP c) := by
  unfold clause_Clean.f
  exact clean_l0 c hc _ 0 [] rfl (by omega) (by simp) (by simp)
/-- A clean clause holds just as the clause. -/
theorem clean_holds (c : List Int) (a : List Bool) : holdsP (cleanD c) a = holdsP c a := by
  unfold holdsP
  rw [Bool.eq_iff_iff, List.any_eq_true, List.any_eq_true]
  constructor
  · rintro ⟨x, hx, ht⟩
    exact ⟨x, ((mem_clean c x).mp hx).1, ht⟩
  · rintro ⟨x, hx, ht⟩
    refine ⟨x, (mem_clean c x).mpr ⟨hx, ?_⟩, ht⟩
    have h2 := of_decide_eq_true ht
    have hb := abs_in x
    unfold tr clause_Holds.tr at h2
    split at h2
    · omega
    · omega
end Go.Proofs.Ytohgjbkiemnfnaa.Clause12
