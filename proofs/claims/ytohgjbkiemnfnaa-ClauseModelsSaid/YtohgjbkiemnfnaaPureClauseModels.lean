/- ClauseModels: the pure statement, for every clauses and every number of variables. -/
import Derived.Test.YtohgjbkiemnfnaaAwake12
import Derived.Test.YtohgjbkiemnfnaaXn32
import Derived.Test.YtohgjbkiemnfnaaXn7
namespace Go.Proofs.Ytohgjbkiemnfnaa.Pure
open Go.RowKit Go.Proofs.Ytohgjbkiemnfnaa.X Go.Proofs.YtohgjbkiemnfnaaW.PrintWords Go.Proofs.YtohgjbkiemnfnaaW.PrintMore Go.Proofs.Ytohgjbkiemnfnaa.Aid Go.Proofs.Ytohgjbkiemnfnaa.Clause12
abbrev bitsP := clause_Models.bits
def allP (l : List (List Int)) (a : List Bool) : Bool := l.all fun c => holdsP c a
def enum : Nat → List Bool → List (List Bool)
  | 0, a => [a]
  | m + 1, a => enum m (a ++ [false]) ++ enum m (a ++ [true])
theorem enum_len (m : Nat) : ∀ a, (enum m a).length = 2 ^ m := by
  induction m with
  | zero => intro a; rfl
  | succ m ih => intro a; rw [enum, List.length_append, ih, ih, Nat.pow_succ]; omega
theorem bits_snoc (p t : Nat) (b : Nat) (hb : b < 2) : bitsP (p + 1) (2 * t + b) = bitsP p t ++ [decide (b = 1)] := by
  unfold bitsP clause_Models.bits
  rw [List.range_succ, List.map_append, List.map_singleton]
  congr 1
  · apply List.map_congr_left
    intro i hi
    have hip : i < p := List.mem_range.mp hi
    have e : (2 * t + b) / 2 ^ (p + 1 - 1 - i) = t / 2 ^ (p - 1 - i) := by
      rw [show 2 ^ (p + 1 - 1 - i) = 2 * 2 ^ (p - 1 - i) by rw [show p + 1 - 1 - i = (p - 1 - i) + 1 by omega, Nat.pow_succ, Nat.mul_comm], ← Nat.div_div_eq_div_mul, show (2 * t + b) / 2 = t by omega]
    rw [e]
  · rw [show p + 1 - 1 - p = 0 by omega, Nat.pow_zero, Nat.div_one, show (2 * t + b) % 2 = b by omega]
theorem enum_bits (m : Nat) : ∀ p t, enum m (bitsP p t) = (List.range (2 ^ m)).map fun r => bitsP (p + m) (t * 2 ^ m + r) := by
  induction m with
  | zero => intro p t; simp [enum]
  | succ m ih =>
    intro p t
    have e0 := bits_snoc p t 0 (by omega)
    have e1 := bits_snoc p t 1 (by omega)
    rw [show decide ((0 : Nat) = 1) = false from rfl] at e0
    rw [show decide ((1 : Nat) = 1) = true from rfl] at e1
    rw [enum, ← e0, ← e1, ih, ih, Nat.pow_succ, Nat.mul_two, List.range_add, List.map_append, List.map_map]
    congr 1
    · apply List.map_congr_left
      intro r _
      rw [show p + 1 + m = p + (m + 1) by omega, show (2 * t + 0) * 2 ^ m + r = t * (2 ^ m + 2 ^ m) + r by rw [Nat.mul_add, Nat.add_zero, Nat.mul_comm 2 t, Nat.mul_assoc, Nat.two_mul, Nat.mul_add]]
    · apply List.map_congr_left
      intro r _
      show bitsP _ _ = bitsP _ _
      rw [show p + 1 + m = p + (m + 1) by omega, show (2 * t + 1) * 2 ^ m + r = t * (2 ^ m + 2 ^ m) + (2 ^ m + r) by rw [Nat.add_mul, Nat.one_mul, Nat.mul_comm 2 t, Nat.mul_assoc, Nat.two_mul, Nat.mul_add]; omega]
theorem all_bits (V : Nat) : (List.range (2 ^ V)).map (bitsP V) = enum V [] := by
  have := enum_bits V 0 0
  rw [show bitsP 0 0 = [] from rfl] at this
  rw [this]
  apply List.map_congr_left
  intro r _
  rw [Nat.zero_add, Nat.zero_mul, Nat.zero_add]
theorem good_all (l : List (List Int)) (a : List Bool) : clause_Models.good l a = allP l a := by
  unfold clause_Models.good allP
  induction l with
  | nil => rfl
  | cons c l ih =>
    rw [List.any_cons, List.all_cons, ← ih]
    show (!(!(holdsP c a) || _)) = _
    rw [Bool.not_or, Bool.not_not]
theorem models_some (l : List (List Int)) (V : Nat) (hV : V ≤ 12) : clause_Models.f l (V : Int) = some ((enum V []).filter (allP l)) := by
  unfold clause_Models.f
  rw [if_neg (by omega), Int.toNat_natCast]
  unfold clause_Models.upto
  rw [show clause_Models.bits V = bitsP V from rfl, all_bits]
  congr 1
  apply List.filter_congr
  intro a _
  exact good_all l a
theorem rdL2 (l : List (List Int)) (n : Nat) (h : n < l.length) : rd_L2 l (n : Int) = l[n] := by
  unfold rd_L2
  rw [show ((n : Int)).toNat = n by omega, List.getD_eq_getElem?_getD, List.getElem?_eq_getElem h]; rfl
theorem rdL3 (l : List (List Bool)) (n : Nat) (h : n < l.length) : rd_L3 l (n : Int) = l[n] := by
  unfold rd_L3
  rw [show ((n : Int)).toNat = n by omega, List.getD_eq_getElem?_getD, List.getElem?_eq_getElem h]; rfl
section
variable (l : List (List Int)) (hl : l.length ≤ 20) (hs : ∀ c ∈ l, c.length ≤ 20)
include hl hs
theorem all_l0 (a : List Bool) (d : Nat) : ∀ n : Nat, l.length - n = d → n ≤ l.length → Ev (fun k => ferruleref12_All.l0 k l a (n : Int)) (allP (l.drop n) a) := by
  induction d with
  | zero =>
    intro n hd hn
    refine Ev.step (fun k => by rw [ferruleref12_All.l0]) (ev_neg (by omega) (ev_now ?_))
    rw [List.drop_eq_nil_of_le (by omega)]; rfl
  | succ d ih =>
    intro n hd hn
    have hlt : n < l.length := by omega
    have hsz := hs l[n] (List.getElem_mem hlt)
    refine Ev.step (fun k => by rw [ferruleref12_All.l0]) (ev_pos (by omega) (ev_pos (by omega) ?_))
    rw [rdL2 l n hlt, drop_one l n hlt]
    refine ev_bind (holds_ev l[n] a (by omega)) ?_
    unfold allP
    rw [List.all_cons]
    by_cases h : holdsP l[n] a = true
    · refine ev_pos h ?_
      rw [h, Bool.true_and, wrap64_in (by omega) (by omega), show (n : Int) + 1 = ((n + 1 : Nat) : Int) by omega]
      exact ih (n + 1) (by omega) (by omega)
    · refine ev_neg h (ev_now ?_)
      rw [Bool.not_eq_true] at h
      rw [h, Bool.false_and]
theorem all_ev (a : List Bool) : Ev (fun k => ferruleref12_All.f k l a) (allP l a) := by
  unfold ferruleref12_All.f
  exact all_l0 l hl hs a _ 0 rfl (by omega)
theorem ref_ev (V : Nat) (hV : V ≤ 8) (m : Nat) : ∀ a : List Bool, a.length + m = V → Ev (fun k => ferruleref12_Models.f k l (V : Int) a) ((enum m a).filter (allP l)) := by
  induction m with
  | zero =>
    intro a ha
    refine Ev.step (fun k => by rw [ferruleref12_Models.f]) (ev_neg (by omega) ?_)
    rw [decide_eq_false (show ¬ ((V : Int) > 12) by omega)]
    refine Ev.step (fun k => by rw [ferruleref12_Models.j0]) (ev_neg (by simp) (ev_pos (by omega) (ev_bind (all_ev l hl hs a) ?_)))
    rw [enum]
    by_cases h : allP l a = true
    · refine ev_pos h (ev_bind (Ev.now _) (ev_pos (by simp; omega) (ev_now ?_)))
      rw [List.filter_cons_of_pos h]; rfl
    · refine ev_neg h (ev_now ?_)
      rw [List.filter_cons_of_neg h]; rfl
  | succ m ih =>
    intro a ha
    have h1 := ih (a ++ [false]) (by simp; omega)
    have h2 := ih (a ++ [true]) (by simp; omega)
    have hpow : 2 ^ m ≤ 2 ^ 8 := Nat.pow_le_pow_right (by decide) (by omega)
    have z1 := List.length_filter_le (allP l) (enum m (a ++ [false]))
    have z2 := List.length_filter_le (allP l) (enum m (a ++ [true]))
    rw [enum_len] at z1 z2
    refine Ev.step (fun k => by rw [ferruleref12_Models.f]) (ev_neg (by omega) ?_)
    rw [decide_eq_false (show ¬ ((V : Int) > 12) by omega)]
    refine Ev.step (fun k => by rw [ferruleref12_Models.j0]) (ev_neg (by simp) (ev_neg (by omega) ?_))
    refine ev_bind (Ev.now _) (ev_pos (by simp; omega) (ev_bind (Ev.now _) (ev_pos (by simp; omega) ?_)))
    rw [List.nil_append]
    refine ev_bind h1 (ev_bind (Ev.now _) (ev_pos (by simp; omega) (ev_bind (Ev.now _) (ev_pos (by simp; omega) ?_))))
    rw [List.nil_append]
    refine ev_bind h2 (ev_pos (by omega) (ev_now ?_))
    rw [enum, List.filter_append]
end
theorem same_l2 (M : List (List Bool)) (n : Nat) (hn : n < M.length) (hM : M.length ≤ 1000000000) (hb : M[n].length ≤ 1000) (hg : Ev (fun k => ferrulelaw12_ClauseModels.l1 k M M ((n + 1 : Nat) : Int)) true) (d : Nat) : ∀ j : Nat, M[n].length - j = d → j ≤ M[n].length → Ev (fun k => ferrulelaw12_ClauseModels.l2 k M M (n : Int) (j : Int)) true := by
  induction d with
  | zero =>
    intro j hd hj
    refine Ev.step (fun k => by rw [ferrulelaw12_ClauseModels.l2]) (ev_pos (by omega) (ev_pos (by omega) ?_))
    rw [rdL3 M n hn]
    refine ev_neg (by omega) ?_
    rw [wrap64_in (by omega) (by omega), show (n : Int) + 1 = ((n + 1 : Nat) : Int) by omega]
    exact hg
  | succ d ih =>
    intro j hd hj
    refine Ev.step (fun k => by rw [ferrulelaw12_ClauseModels.l2]) (ev_pos (by omega) (ev_pos (by omega) ?_))
    rw [rdL3 M n hn]
    refine ev_pos (by omega) (ev_pos (by omega) (ev_pos (by omega) (ev_pos (by omega) (ev_neg (by simp) ?_))))
    rw [wrap64_in (by omega) (by omega), show (j : Int) + 1 = ((j + 1 : Nat) : Int) by omega]
    exact ih (j + 1) (by omega) (by omega)
theorem same_l1 (M : List (List Bool)) (hM : M.length ≤ 1000000000) (hb : ∀ a ∈ M, a.length ≤ 1000) (d : Nat) : ∀ n : Nat, M.length - n = d → n ≤ M.length → Ev (fun k => ferrulelaw12_ClauseModels.l1 k M M (n : Int)) true := by
  induction d with
  | zero =>
    intro n hd hn
    exact Ev.step (fun k => by rw [ferrulelaw12_ClauseModels.l1]) (ev_neg (by omega) (Ev.now _))
  | succ d ih =>
    intro n hd hn
    have hlt : n < M.length := by omega
    refine Ev.step (fun k => by rw [ferrulelaw12_ClauseModels.l1]) (ev_pos (by omega) (ev_pos (by omega) (ev_pos (by omega) (ev_pos rfl ?_))))
    exact same_l2 M n hlt hM (hb _ (List.getElem_mem hlt)) (ih (n + 1) (by omega) (by omega)) _ 0 rfl (by omega)
theorem enum_size (m : Nat) : ∀ a, ∀ x ∈ enum m a, x.length = a.length + m := by
  induction m with
  | zero => intro a x hx; rw [enum, List.mem_singleton] at hx; rw [hx]; rfl
  | succ m ih =>
    intro a x hx
    rw [enum, List.mem_append] at hx
    rcases hx with hx | hx
    · have := ih _ x hx; simp at this; omega
    · have := ih _ x hx; simp at this; omega
theorem models_l0 (l : List (List Int)) (v : Int) (hl : l.length ≤ 20) (hv : ¬ (v > 8 ∧ v ≤ 12)) (d : Nat) : ∀ n : Nat, l.length - n = d → n ≤ l.length → (∀ i (h : i < l.length), i < n → l[i].length ≤ 20) → Ev (fun k => ferrulelaw12_ClauseModels.l0 k l v (n : Int)) true := by
  induction d with
  | zero =>
    intro n hd hn hall
    have hs : ∀ c ∈ l, c.length ≤ 20 := by
      intro c hc
      obtain ⟨i, hi, rfl⟩ := List.getElem_of_mem hc
      exact hall i hi (by omega)
    refine Ev.step (fun k => by rw [ferrulelaw12_ClauseModels.l0]) (ev_neg (by omega) ?_)
    by_cases hr : v < 0 ∨ v > 12
    · have e1 : clause_Models.f l v = some [] := by unfold clause_Models.f; rw [if_pos hr]
      have e2 : Ev (fun k => ferruleref12_Models.f k l v []) [] := by
        refine Ev.step (fun k => by rw [ferruleref12_Models.f]) ?_
        by_cases h : v < 0
        · exact ev_pos h (Ev.step (fun k => by rw [ferruleref12_Models.j0]) (ev_pos rfl (Ev.now _)))
        · refine ev_neg h ?_
          rw [decide_eq_true (show v > 12 by omega)]
          exact Ev.step (fun k => by rw [ferruleref12_Models.j0]) (ev_pos rfl (Ev.now _))
      rw [e1]
      refine ev_bind (Ev.now _) (ev_bind e2 (ev_pos rfl ?_))
      exact same_l1 [] (by simp) (by simp) _ 0 rfl (by simp)
    · obtain ⟨V, rfl⟩ : ∃ V : Nat, v = V := ⟨v.toNat, by omega⟩
      have hV : V ≤ 8 := by omega
      rw [models_some l V (by omega)]
      have e2 := ref_ev l hl hs V hV V [] (by simp)
      have hpow : 2 ^ V ≤ 2 ^ 8 := Nat.pow_le_pow_right (by decide) hV
      have z := List.length_filter_le (allP l) (enum V [])
      rw [enum_len] at z
      refine ev_bind (Ev.now _) (ev_bind e2 (ev_pos rfl ?_))
      refine same_l1 _ (by omega) (fun a ha => ?_) _ 0 rfl (by omega)
      have := enum_size V [] a (List.mem_filter.mp ha).1
      simp at this
      omega
  | succ d ih =>
    intro n hd hn hall
    have hlt : n < l.length := by omega
    refine Ev.step (fun k => by rw [ferrulelaw12_ClauseModels.l0]) (ev_pos (by omega) (ev_pos (by omega) ?_))
    rw [rdL2 l n hlt]
    by_cases h : (l[n].length : Int) > 20
    · exact ev_pos h (Ev.now _)
    · refine ev_neg h ?_
      rw [wrap64_in (by omega) (by omega), show (n : Int) + 1 = ((n + 1 : Nat) : Int) by omega]
      refine ih (n + 1) (by omega) (by omega) fun i hi hin => ?_
      by_cases e : i = n
      · subst e; omega
      · exact hall i hi (by omega)
theorem ClauseModels : ferrulelaw12_ClauseModels.Pure := by
  intro l v _ _
  refine Ev.rounds ?_
  unfold ferrulelaw12_ClauseModels.f
  refine ev_bind Awake12.awake_ev (ev_pos rfl ?_)
  have hdone : Ev (fun k => ferrulelaw12_ClauseModels.j0 k l v true) true := Ev.step (fun k => by rw [ferrulelaw12_ClauseModels.j0]) (ev_pos rfl (Ev.now _))
  by_cases h1 : (l.length : Int) > 20
  · exact ev_pos h1 hdone
  · refine ev_neg h1 ?_
    have hgo : ∀ b, b = false → ¬ (v > 8 ∧ v ≤ 12) → Ev (fun k => ferrulelaw12_ClauseModels.j0 k l v b) true := by
      rintro b rfl hv
      refine Ev.step (fun k => by rw [ferrulelaw12_ClauseModels.j0]) (ev_neg (by simp) ?_)
      exact models_l0 l v (by omega) hv _ 0 rfl (by omega) (fun i _ h => absurd h (Nat.not_lt_zero _))
    by_cases h2 : v > 8
    · refine ev_pos h2 ?_
      by_cases h3 : v ≤ 12
      · rw [decide_eq_true h3]; exact hdone
      · rw [decide_eq_false h3]; exact hgo _ rfl (by omega)
    · exact ev_neg h2 (hgo _ rfl (by omega))
end Go.Proofs.Ytohgjbkiemnfnaa.Pure
