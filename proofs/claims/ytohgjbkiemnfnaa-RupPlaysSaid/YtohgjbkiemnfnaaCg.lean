/- A clause made clean: the program's list and the document's are one, for the family R. Turned from Clause12, Clean12. -/
import Derived.Test.YtohgjbkiemnfnaaAid
import Derived.Test.YtohgjbkiemnfnaaRn33
import Derived.Test.YtohgjbkiemnfnaaRn34
import Derived.Test.YtohgjbkiemnfnaaRn73
namespace Go.Proofs.Ytohgjbkiemnfnaa.Clause12
open Go.RowKit Go.Proofs.Ytohgjbkiemnfnaa.R Go.Proofs.YtohgjbkiemnfnaaW.PrintWords Go.Proofs.YtohgjbkiemnfnaaW.PrintMore Go.Proofs.Ytohgjbkiemnfnaa.Aid
set_option linter.unusedVariables false
set_option linter.unusedSimpArgs false
theorem drop_one {α : Type} (l : List α) (n : Nat) (h : n < l.length) : l.drop n = l[n] :: l.drop (n + 1) := List.drop_eq_getElem_cons h
theorem rd_at (l : List Int) (n : Nat) (h : n < l.length) : rd l (n : Int) = l[n] := by rw [rd_of (by omega) (by omega)]; rfl
theorem abs_in (x : Int) : 0 ≤ clause_abs.p x ∧ clause_abs.p x ≤ 16777216 := by unfold clause_abs.p; (repeat' split) <;> omega
/-- A literal's variable, as the document says. -/
theorem var_ev (x : Int) : Ev (fun k => ferruleref12_Var.f k x) (clause_abs.p x) := by
  unfold ferruleref12_Var.f clause_abs.p
  by_cases h1 : x < -16777216
  · refine ev_pos h1 (Ev.step (fun k => by rw [ferruleref12_Var.j0]) (ev_pos rfl (ev_now ?_)))
    rw [if_pos h1]
  · refine ev_neg h1 (Ev.step (fun k => by rw [ferruleref12_Var.j0]) ?_)
    rw [if_neg h1]
    by_cases h2 : x > 16777216
    · rw [decide_eq_true h2, if_pos h2]
      exact ev_pos rfl (Ev.now _)
    · rw [decide_eq_false h2, if_neg h2]
      refine ev_neg (by simp) ?_
      by_cases h3 : x < 0
      · exact ev_pos h3 (ev_now (by rw [if_pos h3, wrap64_in (by omega) (by omega)]))
      · exact ev_neg h3 (ev_now (by rw [if_neg h3]))
/-- A clause's literals, in order, each once. -/
def sortP (c : List Int) : List Int := (c.filter fun x => decide (clause_abs.p x > 0)).mergeSort slices_SortFunc_int_int__of68.le
def cleanD (c : List Int) : List Int := Lib.compactUpTo (sortP c).toArray (sortP c).length
theorem mem_compact (l : List Int) (x : Int) : x ∈ Lib.compactUpTo l.toArray l.length ↔ x ∈ l := by
  unfold Lib.compactUpTo
  simp only [List.mem_map, List.mem_filter, List.mem_range]
  constructor
  · rintro ⟨j, ⟨hj, _⟩, rfl⟩
    rw [getElem!_pos l.toArray j (by simpa using hj)]
    exact List.getElem_mem _
  · intro hx
    obtain ⟨j, hj, rfl⟩ := List.getElem_of_mem hx
    clear hx
    induction j with
    | zero => exact ⟨0, ⟨hj, by simp [Lib.keeps]⟩, by rw [getElem!_pos l.toArray 0 (by simpa using hj)]; rfl⟩
    | succ j ih =>
      by_cases e : l[j + 1] = l[j]'(by omega)
      · rw [e]; exact ih (by omega)
      · refine ⟨j + 1, ⟨hj, ?_⟩, by rw [getElem!_pos l.toArray (j + 1) (by simpa using hj)]; rfl⟩
        simp only [Lib.keeps, Nat.add_sub_cancel]
        rw [getElem!_pos l.toArray (j + 1) (by simpa using hj), getElem!_pos l.toArray j (by simp; omega)]
        simpa using e
theorem mem_clean (c : List Int) (x : Int) : x ∈ cleanD c ↔ x ∈ c ∧ clause_abs.p x > 0 := by
  unfold cleanD
  rw [mem_compact]
  unfold sortP
  rw [List.mem_mergeSort, List.mem_filter, decide_eq_true_eq]
theorem clean_len (c : List Int) : (cleanD c).length ≤ c.length := by
  unfold cleanD Lib.compactUpTo
  rw [List.length_map]
  refine Nat.le_trans (List.length_filter_le _ _) ?_
  rw [List.length_range]
  unfold sortP
  rw [List.length_mergeSort]
  exact List.length_filter_le _ _
/-- Does a literal stand ahead of its negation? -/
def opp (d : List Int) : Nat → Nat → Bool
  | 0, _ => false
  | m + 1, i => if h : i < d.length then (if d[i - 1]'(by omega) = -d[i] then true else opp d m (i + 1)) else false
def cleanP (c : List Int) : List Int × Bool := if opp (cleanD c) (cleanD c).length 1 = true then ([], true) else (cleanD c, false)
theorem clean_l1 (d : List Int) (hd : d.length ≤ 1000000000) (hx : ∀ x ∈ d, -16777216 ≤ x ∧ x ≤ 16777216) (m : Nat) : ∀ i : Nat, 1 ≤ i → d.length ≤ i + m → Ev (fun k => clause_Clean.l1 k d (i : Int)) (if opp d m i = true then ([], true) else (d, false)) := by
  induction m with
  | zero =>
    intro i hi hm
    refine Ev.step (fun k => by rw [clause_Clean.l1]) (ev_neg (by omega) (ev_now ?_))
    rfl
  | succ m ih =>
    intro i hi hm
    refine Ev.step (fun k => by rw [clause_Clean.l1]) ?_
    rw [opp]
    by_cases h : i < d.length
    · have hb := hx d[i] (List.getElem_mem h)
      rw [wrap64_in (x := (i : Int) - 1) (by omega) (by omega), dif_pos h]
      refine ev_pos (by omega) (ev_pos (by omega) (ev_pos (by omega) (ev_pos (by omega) ?_)))
      rw [show (i : Int) - 1 = ((i - 1 : Nat) : Int) by omega, rd_at d (i - 1) (by omega), rd_at d i h, wrap64_in (x := -d[i]) (by omega) (by omega)]
      by_cases e : d[i - 1] = -d[i]
      · rw [if_pos e, if_pos rfl]
        exact ev_pos e (Ev.now _)
      · rw [if_neg e]
        refine ev_neg e ?_
        rw [wrap64_in (by omega) (by omega), show (i : Int) + 1 = ((i + 1 : Nat) : Int) by omega]
        exact ih (i + 1) (by omega) (by omega)
    · rw [dif_neg h]
      exact ev_neg (by omega) (Ev.now _)
theorem abs_range {x : Int} (h : clause_abs.p x > 0) : -16777216 ≤ x ∧ x ≤ 16777216 := by unfold clause_abs.p at h; (repeat' split at h) <;> omega
theorem clean_l0 (c : List Int) (hc : c.length ≤ 1000000000) (d : Nat) : ∀ (n : Nat) (acc : List Int), c.length - n = d → n ≤ c.length → acc.length ≤ n → acc ++ (c.drop n).filter (fun x => decide (clause_abs.p x > 0)) = c.filter (fun x => decide (clause_abs.p x > 0)) →
    Ev (fun k => clause_Clean.l0 k acc c (c.length : Int) (n : Int)) (cleanP c) := by
  induction d with
  | zero =>
    intro n acc hd hn ha he
    refine Ev.step (fun k => by rw [clause_Clean.l0]) (ev_neg (by omega) ?_)
    rw [List.drop_eq_nil_of_le (by omega), List.filter_nil, List.append_nil] at he
    rw [he]
    have hs : slices_SortFunc_int_int__of68.f (c.filter fun x => decide (clause_abs.p x > 0)) = some (sortP c) := by
      unfold slices_SortFunc_int_int__of68.f
      rw [if_pos (by have := List.length_filter_le (fun x => decide (clause_abs.p x > 0)) c; omega)]
      rfl
    rw [hs]
    refine ev_bind (Ev.now _) (ev_bind (a := cleanD c) (ev_done rfl) ?_)
    have hl := clean_len c
    exact clean_l1 (cleanD c) (by omega) (fun x hx => abs_range ((mem_clean c x).mp hx).2) _ 1 (Nat.le_refl _) (by omega)
  | succ d ih =>
    intro n acc hd hn ha he
    have hlt : n < c.length := by omega
    refine Ev.step (fun k => by rw [clause_Clean.l0]) (ev_pos (by omega) (ev_pos (by omega) (ev_pos (by omega) ?_)))
    rw [rd_at c n hlt, show clause_abs.f c[n] = some (clause_abs.p c[n]) from rfl, wrap64_in (by omega) (by omega), show (n : Int) + 1 = ((n + 1 : Nat) : Int) by omega]
    refine ev_bind (Ev.now _) ?_
    rw [drop_one c n hlt] at he
    by_cases h : clause_abs.p c[n] > 0
    · refine ev_pos h (ev_pos (by omega) (ih (n + 1) (acc ++ [c[n]]) (by omega) (by omega) (by simp; omega) ?_))
      rw [List.filter_cons_of_pos (by simpa using h)] at he
      rw [← he]; simp
    · refine ev_neg h (ih (n + 1) acc (by omega) (by omega) (by omega) ?_)
      rw [List.filter_cons_of_neg (by simpa using h)] at he
      exact he
theorem clean_ev (c : List Int) (hc : c.length ≤ 1000000000) : Ev (fun k => clause_Clean.f k c) (cleanP c) := by
  unfold clause_Clean.f
  exact clean_l0 c hc _ 0 [] rfl (by omega) (by simp) (by simp)
end Go.Proofs.Ytohgjbkiemnfnaa.Clause12
namespace Go.Proofs.Ytohgjbkiemnfnaa.Clean12
open Go.RowKit Go.Proofs.Ytohgjbkiemnfnaa.R Go.Proofs.YtohgjbkiemnfnaaW.PrintWords Go.Proofs.YtohgjbkiemnfnaaW.PrintMore Go.Proofs.Ytohgjbkiemnfnaa.Aid Go.Proofs.Ytohgjbkiemnfnaa.Clause12
abbrev av := clause_abs.p
abbrev leC := slices_SortFunc_int_int__of68.le
theorem av_def (x : Int) : av x = if x < -16777216 then 0 else if x > 16777216 then 0 else if x < 0 then -x else x := rfl
theorem av_pos {x : Int} (h : av x > 0) : av x = if x < 0 then -x else x := by rw [av_def] at *; (repeat' split at h) <;> (repeat' split) <;> omega
theorem av_neg (x : Int) : av (-x) = av x := by rw [av_def, av_def]; (repeat' split) <;> omega
theorem av_two {x y : Int} (hx : av x > 0) (h : av x = av y) : x = y ∨ x = -y := by
  have hy : av y > 0 := by omega
  rw [av_pos hx, av_pos hy] at h
  (repeat' split at h) <;> omega
theorem av_ne {x : Int} (hx : av x > 0) : x ≠ 0 := by rintro rfl; simp [av_def] at hx
theorem le_iff (x y : Int) : leC x y = true ↔ av x < av y ∨ (av x = av y ∧ x ≤ y) := by
  show slices_SortFunc_int_int__of68.le x y = true ↔ _
  unfold slices_SortFunc_int_int__of68.le
  rw [slices_SortFunc_int_int__of68.lt, Bool.not_eq_true', decide_eq_false_iff_not]
  show ¬ (av y < av x ∨ av y = av x ∧ y < x) ↔ _
  omega
def ltC (x y : Int) : Prop := av x < av y ∨ (av x = av y ∧ x < y)
theorem sorted_sortP (c : List Int) : (sortP c).Pairwise (fun x y => leC x y = true) := by
  unfold sortP
  refine List.pairwise_mergeSort ?_ ?_ _
  · intro a b c h1 h2; rw [le_iff] at *; omega
  · intro a b
    have h := (le_iff a b); have h' := le_iff b a
    by_cases e : leC a b = true
    · show (leC a b || leC b a) = true
      rw [e]; rfl
    · show (leC a b || leC b a) = true
      have : leC b a = true := h'.mpr (by rw [h] at e; omega)
      rw [this, Bool.or_true]
/-- What is left of a sorted list when equal neighbours go: strictly rising. -/
theorem compact_rising (l : List Int) (h : l.Pairwise (fun x y => leC x y = true)) : (Lib.compactUpTo l.toArray l.length).Pairwise ltC := by
  unfold Lib.compactUpTo
  rw [List.pairwise_map, List.pairwise_filter]
  refine (List.Pairwise.imp_of_mem ?_ List.pairwise_lt_range)
  intro i j hi hj hij _ hk
  have hj' : j < l.length := List.mem_range.mp hj
  have hi' : i < l.length := List.mem_range.mp hi
  simp only [Lib.keeps, decide_eq_true_eq] at hk
  rw [getElem!_pos l.toArray j (by simpa using hj'), getElem!_pos l.toArray (j - 1) (by simp; omega)] at hk
  rw [getElem!_pos l.toArray j (by simpa using hj'), getElem!_pos l.toArray i (by simpa using hi')]
  simp only [List.getElem_toArray] at hk ⊢
  rw [List.pairwise_iff_getElem] at h
  have h1 := (le_iff _ _).mp (h (j - 1) j (by omega) hj' (by omega))
  have hne : l[j] ≠ l[j - 1]'(by omega) := by rcases hk with e | e; · omega
                                              · exact e
  unfold ltC
  by_cases e : i = j - 1
  · subst e; omega
  · have h2 := (le_iff _ _).mp (h i (j - 1) hi' (by omega) (by omega))
    omega
theorem clean_rising (c : List Int) : (cleanD c).Pairwise ltC := compact_rising _ (sorted_sortP c)
theorem opp_iff (d : List Int) (m : Nat) : ∀ i, 1 ≤ i → (opp d m i = true ↔ ∃ j, ∃ h : j < d.length, i ≤ j ∧ j < i + m ∧ d[j - 1]'(by omega) = -d[j]) := by
  induction m with
  | zero =>
    intro i hi
    unfold opp
    constructor
    · intro h; cases h
    · rintro ⟨j, _, h1, h2, _⟩; omega
  | succ m ih =>
    intro i hi
    rw [opp]
    by_cases h : i < d.length
    · rw [dif_pos h]
      by_cases e : d[i - 1] = -d[i]
      · rw [if_pos e]
        exact ⟨fun _ => ⟨i, h, Nat.le_refl _, by omega, e⟩, fun _ => rfl⟩
      · rw [if_neg e, ih (i + 1) (by omega)]
        constructor
        · rintro ⟨j, hj, h1, h2, h3⟩; exact ⟨j, hj, by omega, by omega, h3⟩
        · rintro ⟨j, hj, h1, h2, h3⟩
          have : j ≠ i := by rintro rfl; exact e h3
          exact ⟨j, hj, by omega, by omega, h3⟩
    · rw [dif_neg h]
      constructor
      · intro h; cases h
      · rintro ⟨j, hj, h1, _, _⟩; omega
/-- A literal and its negation in the clause: the clause always holds. -/
theorem clean_always (c : List Int) (x : Int) (h0 : av x > 0) (h1 : x ∈ c) (h2 : -x ∈ c) : cleanP c = ([], true) := by
  have hD := clean_rising c
  rw [List.pairwise_iff_getElem] at hD
  have key : ∀ y : Int, y < 0 → av y > 0 → y ∈ cleanD c → -y ∈ cleanD c → opp (cleanD c) (cleanD c).length 1 = true := by
    intro y hy hv m1 m2
    obtain ⟨i, hi, ei⟩ := List.getElem_of_mem m1
    obtain ⟨j, hj, ej⟩ := List.getElem_of_mem m2
    have hn := av_neg y
    have hij : i < j := by
      refine Classical.byContradiction fun hc => ?_
      by_cases e : i = j
      · subst e; rw [ei] at ej; omega
      · have := hD j i hj hi (by omega)
        rw [ei, ej] at this
        unfold ltC at this
        omega
    have hone : j = i + 1 := by
      refine Classical.byContradiction fun hc => ?_
      have ha := hD i (i + 1) hi (by omega) (by omega)
      have hb := hD (i + 1) j (by omega) hj (by omega)
      rw [ei] at ha
      rw [ej] at hb
      generalize (cleanD c)[i + 1]'(by omega) = z at ha hb
      unfold ltC at ha hb
      have hz : av y = av z := by omega
      rcases av_two hv hz with e | e <;> omega
    rw [opp_iff _ _ 1 (Nat.le_refl _)]
    refine ⟨j, hj, by omega, by omega, ?_⟩
    rw [ej]
    subst hone
    rw [show (cleanD c)[i + 1 - 1] = (cleanD c)[i] from rfl, ei]
    omega
  have hn := av_neg x
  have m1 : x ∈ cleanD c := (mem_clean c x).mpr ⟨h1, h0⟩
  have m2 : -x ∈ cleanD c := (mem_clean c (-x)).mpr ⟨h2, by show av (-x) > 0; omega⟩
  have hx := av_ne h0
  unfold cleanP
  rw [if_pos]
  by_cases hs : x < 0
  · exact key x hs h0 m1 m2
  · exact key (-x) (by omega) (by omega) m2 (by rw [show - -x = x by omega]; exact m1)
/-- No literal stands there with its negation. -/
def Lone (c : List Int) : Prop := ∀ x ∈ c, av x > 0 → -x ∉ c
abbrev Rise (l : List Int) : Prop := l.Pairwise fun x y => av x < av y
theorem clean_lone (c : List Int) (h : Lone c) : cleanP c = (cleanD c, false) ∧ Rise (cleanD c) := by
  constructor
  · unfold cleanP
    rw [if_neg]
    rw [opp_iff _ _ 1 (Nat.le_refl _)]
    rintro ⟨j, hj, _, _, e⟩
    have m1 := (mem_clean c _).mp (List.getElem_mem hj)
    have m2 := (mem_clean c _).mp (List.getElem_mem (show j - 1 < (cleanD c).length by omega))
    rw [e] at m2
    exact h _ m1.1 m1.2 m2.1
  · refine (clean_rising c).imp_of_mem ?_
    intro x y hx hy hl
    have mx := (mem_clean c x).mp hx
    have my := (mem_clean c y).mp hy
    unfold ltC at hl
    refine Classical.byContradiction fun hc => ?_
    have e : av x = av y := by omega
    rcases av_two mx.2 e with q | q
    · omega
    · exact h y my.1 my.2 (q ▸ mx.1)
/-- Rising lists of the same numbers are one. -/
theorem rise_one : ∀ (l m : List Int), Rise l → Rise m → (∀ x, x ∈ l ↔ x ∈ m) → l = m
  | [], [], _, _, _ => rfl
  | [], b :: m, _, _, h => by have := (h b).mpr (List.mem_cons_self ..); cases this
  | a :: l, [], _, _, h => by have := (h a).mp (List.mem_cons_self ..); cases this
  | a :: l, b :: m, hl, hm, h => by
    have hl' := List.pairwise_cons.mp hl
    have hm' := List.pairwise_cons.mp hm
    have e : a = b := by
      rcases List.mem_cons.mp ((h a).mp (List.mem_cons_self ..)) with e | e
      · exact e
      · rcases List.mem_cons.mp ((h b).mpr (List.mem_cons_self ..)) with f | f
        · exact f.symm
        · have := hm'.1 a e; have := hl'.1 b f; omega
    subst e
    refine congrArg _ (rise_one l m hl'.2 hm'.2 fun x => ?_)
    constructor
    · intro hx
      rcases List.mem_cons.mp ((h x).mp (List.mem_cons_of_mem _ hx)) with e | e
      · have := hl'.1 x hx; rw [e] at this; omega
      · exact e
    · intro hx
      rcases List.mem_cons.mp ((h x).mpr (List.mem_cons_of_mem _ hx)) with e | e
      · have := hm'.1 x hx; rw [e] at this; omega
      · exact e

/-- Does a list have a number? -/
theorem has_l0 (c : List Int) (hc : c.length ≤ 1000000000) (x : Int) (d : Nat) : ∀ n : Nat, c.length - n = d → n ≤ c.length → Ev (fun k => ferruleref12_Has.l0 k c x (n : Int)) (decide (x ∈ c.drop n)) := by
  induction d with
  | zero =>
    intro n hd hn
    refine Ev.step (fun k => by rw [ferruleref12_Has.l0]) (ev_neg (by omega) (ev_now ?_))
    rw [List.drop_eq_nil_of_le (by omega)]; simp
  | succ d ih =>
    intro n hd hn
    have hlt : n < c.length := by omega
    refine Ev.step (fun k => by rw [ferruleref12_Has.l0]) (ev_pos (by omega) (ev_pos (by omega) ?_))
    rw [rd_at c n hlt, drop_one c n hlt]
    by_cases h : c[n] = x
    · refine ev_pos h (ev_now ?_)
      rw [h]; simp
    · refine ev_neg h ?_
      rw [wrap64_in (by omega) (by omega), show (n : Int) + 1 = ((n + 1 : Nat) : Int) by omega, show decide (x ∈ c[n] :: c.drop (n + 1)) = decide (x ∈ c.drop (n + 1)) from by
        rw [decide_eq_decide, List.mem_cons]; constructor
        · rintro (e | e)
          · exact absurd e.symm h
          · exact e
        · exact .inr]
      exact ih (n + 1) (by omega) (by omega)
theorem has_ev (c : List Int) (hc : c.length ≤ 1000000000) (x : Int) : Ev (fun k => ferruleref12_Has.f k c x) (decide (x ∈ c)) := by
  unfold ferruleref12_Has.f
  exact has_l0 c hc x _ 0 rfl (by omega)

/-- Put in at its place: still rising. -/
theorem rise_put (l : List Int) (x : Int) (m : Nat) (hl : Rise l) (h1 : ∀ y ∈ l.take m, av y < av x) (h2 : ∀ y ∈ l.drop m, av x < av y) : Rise (l.take m ++ [x] ++ l.drop m) := by
  unfold Rise at *
  rw [← List.take_append_drop m l, List.pairwise_append] at hl
  rw [List.pairwise_append, List.pairwise_append]
  refine ⟨⟨hl.1, List.pairwise_singleton _ _, fun a ha b hb => ?_⟩, hl.2.1, fun a ha b hb => ?_⟩
  · rw [List.mem_singleton.mp hb]; exact h1 a ha
  · rcases List.mem_append.mp ha with h | h
    · exact hl.2.2 a h b hb
    · rw [List.mem_singleton.mp h]; exact h2 b hb
theorem mem_put (l : List Int) (x : Int) (m : Nat) (y : Int) : y ∈ l.take m ++ [x] ++ l.drop m ↔ y = x ∨ y ∈ l := by
  conv => rhs; rw [← List.take_append_drop m l]
  simp only [List.mem_append, List.mem_singleton]
  constructor
  · rintro ((h | h) | h)
    · exact .inr (.inl h)
    · exact .inl h
    · exact .inr (.inr h)
  · rintro (h | h | h)
    · exact .inl (.inr h)
    · exact .inl (.inl h)
    · exact .inr h
section
variable (c : List Int) (hc : c.length ≤ 1000000000)
include hc
/-- Where the next literal goes. -/
theorem clean_l1 (n : Nat) (hn : n < c.length) (r : List Int × Bool) (acc : List Int) (ha : acc.length ≤ n) (hr : Rise acc) (hx : ∀ y ∈ acc, av y ≠ av c[n])
    (next : ∀ l, Rise l → l.length = acc.length + 1 → (∀ y, y ∈ l ↔ y = c[n] ∨ y ∈ acc) → Ev (fun k => ferruleref12_Clean.l0 k c l ((n : Int) + 1)) r) (d : Nat) :
    ∀ m : Nat, acc.length - m = d → m ≤ acc.length → (∀ y ∈ acc.take m, av y < av c[n]) → Ev (fun k => ferruleref12_Clean.l1 k c acc (n : Int) (m : Int)) r := by
  have fin : ∀ m : Nat, m ≤ acc.length → (∀ y ∈ acc.take m, av y < av c[n]) → (∀ y ∈ acc.drop m, av c[n] < av y) → Ev (fun k => ferruleref12_Clean.l0 k c (acc.take m ++ [c[n]] ++ acc.drop m) ((n : Int) + 1)) r := by
    intro m hm h1 h2
    refine next _ (rise_put acc _ m hr h1 h2) ?_ (mem_put acc _ m)
    simp only [List.length_append, List.length_take, List.length_drop, List.length_singleton]
    omega
  induction d with
  | zero =>
    intro m hd hm h1
    refine Ev.step (fun k => by rw [ferruleref12_Clean.l1]) (ev_neg (by omega) ?_)
    refine ev_bind (Ev.now _) (ev_pos (by omega) (ev_pos (by omega) (ev_bind (Ev.now _) (ev_pos (by simp only [List.length_nil, List.length_take]; omega) (ev_bind (Ev.now _) (ev_pos (by omega) (ev_pos (by omega) (ev_bind (Ev.now _) ?_))))))))
    refine ev_pos (by simp only [List.nil_append, List.length_singleton, List.length_take]; omega) (ev_bind (Ev.now _) (ev_bind (Ev.now _) (ev_pos (by simp only [List.nil_append, List.length_append, List.length_singleton, List.length_take, List.length_drop]; omega) ?_)))
    rw [rd_at c n hn, wrap64_in (by omega) (by omega), List.nil_append, Int.toNat_natCast]
    refine fin m hm h1 ?_
    rw [List.drop_eq_nil_of_le (by omega)]
    intro y hy; cases hy
  | succ d ih =>
    intro m hd hm h1
    have hlt : m < acc.length := by omega
    refine Ev.step (fun k => by rw [ferruleref12_Clean.l1]) (ev_pos (by omega) (ev_pos (by omega) ?_))
    rw [rd_at acc m hlt, rd_at c n hn]
    refine ev_bind (var_ev _) (ev_pos (by omega) (ev_pos (by omega) (ev_bind (var_ev _) ?_)))
    by_cases h : clause_abs.p acc[m] < clause_abs.p c[n]
    · refine ev_pos h ?_
      rw [wrap64_in (by omega) (by omega), show (m : Int) + 1 = ((m + 1 : Nat) : Int) by omega]
      refine ih (m + 1) (by omega) (by omega) ?_
      rw [List.take_succ_eq_append_getElem hlt]
      intro y hy
      rcases List.mem_append.mp hy with e | e
      · exact h1 y e
      · rw [List.mem_singleton.mp e]; exact h
    · refine ev_neg h ?_
      refine ev_bind (Ev.now _) (ev_pos (by omega) (ev_bind (Ev.now _) (ev_pos (by simp only [List.length_nil, List.length_take]; omega) (ev_bind (Ev.now _) (ev_bind (Ev.now _) ?_)))))
      refine ev_pos (by simp only [List.nil_append, List.length_singleton, List.length_take]; omega) (ev_bind (Ev.now _) (ev_bind (Ev.now _) (ev_pos (by simp only [List.nil_append, List.length_append, List.length_singleton, List.length_take, List.length_drop]; omega) ?_)))
      rw [wrap64_in (by omega) (by omega), List.nil_append, Int.toNat_natCast]
      refine fin m hm h1 ?_
      rw [drop_one acc m hlt]
      have hne := hx _ (List.getElem_mem hlt)
      have hge : av c[n] < av acc[m] := by
        have : ¬ av acc[m] < av c[n] := h
        omega
      unfold Rise at hr
      rw [← List.take_append_drop m acc, List.pairwise_append, drop_one acc m hlt, List.pairwise_cons] at hr
      intro y hy
      rcases List.mem_cons.mp hy with e | e
      · rw [e]; exact hge
      · have := hr.2.1.1 y e
        omega
theorem cleanR_l0 (d : Nat) : ∀ (n : Nat) (acc : List Int), c.length - n = d → n ≤ c.length → acc.length ≤ n → Rise acc → (∀ y, y ∈ acc ↔ y ∈ c.take n ∧ av y > 0) → (∀ x ∈ c.take n, av x > 0 → -x ∉ c) →
    Ev (fun k => ferruleref12_Clean.l0 k c acc (n : Int)) (cleanP c) := by
  induction d with
  | zero =>
    intro n acc hd hn ha hr hm hl
    refine Ev.step (fun k => by rw [ferruleref12_Clean.l0]) (ev_neg (by omega) (ev_now ?_))
    rw [List.take_of_length_le (by omega)] at hm hl
    obtain ⟨e, hD⟩ := clean_lone c hl
    rw [e, rise_one acc (cleanD c) hr hD fun x => by rw [hm, mem_clean]]
  | succ d ih =>
    intro n acc hd hn ha hr hm hl
    have hlt : n < c.length := by omega
    have hmem := List.getElem_mem hlt
    have htake : c.take (n + 1) = c.take n ++ [c[n]] := List.take_succ_eq_append_getElem hlt
    have hb := abs_in c[n]
    -- the same list goes on
    have skip : (c[n] ∈ c.take n ∨ av c[n] = 0) → Ev (fun k => ferruleref12_Clean.l0 k c acc (wrap64 ((n : Int) + 1))) (cleanP c) := by
      intro hs
      rw [wrap64_in (by omega) (by omega), show (n : Int) + 1 = ((n + 1 : Nat) : Int) by omega]
      refine ih (n + 1) acc (by omega) (by omega) (by omega) hr (fun y => ?_) (fun x hx hp => ?_)
      · rw [hm, htake, List.mem_append, List.mem_singleton]
        constructor
        · rintro ⟨h1, h2⟩; exact ⟨.inl h1, h2⟩
        · rintro ⟨h1 | h1, h2⟩
          · exact ⟨h1, h2⟩
          · subst h1
            rcases hs with e | e
            · exact ⟨e, h2⟩
            · omega
      · rw [htake, List.mem_append, List.mem_singleton] at hx
        rcases hx with e | e
        · exact hl x e hp
        · subst e
          rcases hs with e | e
          · exact hl _ e hp
          · omega
    refine Ev.step (fun k => by rw [ferruleref12_Clean.l0]) (ev_pos (by omega) (ev_pos (by omega) ?_))
    rw [rd_at c n hlt]
    refine ev_bind (var_ev _) ?_
    by_cases h0 : clause_abs.p c[n] = 0
    · refine ev_pos h0 (Ev.step (fun k => by rw [ferruleref12_Clean.j1]) (ev_pos rfl (skip (.inr h0))))
    · refine ev_neg h0 (ev_pos (by omega) ?_)
      rw [Int.toNat_natCast]
      refine ev_bind (has_ev (c.take n) (by rw [List.length_take]; omega) _) ?_
      refine Ev.step (fun k => by rw [ferruleref12_Clean.j1]) ?_
      by_cases h1 : c[n] ∈ c.take n
      · exact ev_pos (by simpa using h1) (skip (.inl h1))
      · refine ev_neg (by simpa using h1) (ev_pos (by omega) (ev_pos (by omega) ?_))
        have hpos : av c[n] > 0 := by have : clause_abs.p c[n] ≠ 0 := h0; show clause_abs.p c[n] > 0; omega
        have hrange := abs_range hpos
        rw [rd_at c n hlt, wrap64_in (by omega) (by omega)]
        refine ev_bind (has_ev c hc _) ?_
        by_cases h2 : -c[n] ∈ c
        · refine ev_pos (by simpa using h2) (ev_now ?_)
          rw [clean_always c _ hpos hmem h2]
        · refine ev_neg (by simpa using h2) ?_
          refine clean_l1 c hc n hlt (cleanP c) acc ha hr ?_ ?_ acc.length 0 rfl (by omega) (by intro y hy; rw [List.take_zero] at hy; cases hy)
          · intro y hy e
            have my := (hm y).mp hy
            rcases av_two my.2 e with q | q
            · exact h1 (q ▸ my.1)
            · exact h2 (q ▸ List.mem_of_mem_take my.1)
          · intro l hR hlen hml
            rw [show (n : Int) + 1 = ((n + 1 : Nat) : Int) by omega]
            refine ih (n + 1) l (by omega) (by omega) (by omega) hR (fun y => ?_) (fun x hx hp => ?_)
            · rw [hml, hm, htake, List.mem_append, List.mem_singleton]
              constructor
              · rintro (e | ⟨e1, e2⟩)
                · subst e; exact ⟨.inr rfl, hpos⟩
                · exact ⟨.inl e1, e2⟩
              · rintro ⟨e | e, e2⟩
                · exact .inr ⟨e, e2⟩
                · exact .inl e
            · rw [htake, List.mem_append, List.mem_singleton] at hx
              rcases hx with e | e
              · exact hl x e hp
              · subst e; exact h2
theorem cleanR_ev : Ev (fun k => ferruleref12_Clean.f k c) (cleanP c) := by
  unfold ferruleref12_Clean.f
  exact cleanR_l0 c hc _ 0 [] rfl (by omega) (by simp) List.Pairwise.nil (by simp) (by simp)
end
end Go.Proofs.Ytohgjbkiemnfnaa.Clean12
